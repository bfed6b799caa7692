/- Lemmas on the way: PCdG PCdG2 Stab View View2 View3 PShPlain PShSumL PPl PKw. -/
import Derived.Sort.LotA
import Derived.Deep.Cut
import Derived.Test.YtgdaahffmcfhpaaGreatDoorT06
import Derived.Test.YtgdaahffmcfhpaaGreatDoorT08
import Derived.Test.YtgdaahffmcfhpaaGreatDoorT10
import Derived.Test.YtgdaahffmcfhpaaGreatDoorT00
set_option maxRecDepth 100000
set_option maxHeartbeats 8000000
namespace Go.Proofs.YtgdaahffmcfhpaaGreatDoor
open Tryz
namespace Pt.Cd
theorem num_is (d:List UInt8) (h:(numR d 0).2.1=0):
  d.take (numR d 0).1=numU (numR d 0).2.2/\(numU (numR d 0).2.2).length=(numR d 0).1/\(numR d 0).1<=d.length:=by
 have hle:=numR_le d 0 (aT _);unfold numR at h ⊢;rw [bk] at h ⊢;cases d with
 |nil=>simp at h
 |cons c t=>
  simp only [] at h ⊢;by_cases h1:8 < c.toNat
  ·rw [if_pos h1] at h;simp at h
  rw [if_neg h1] at h ⊢;by_cases h2:t.length < c.toNat
  ·rw [if_pos h2] at h;simp at h
  rw [if_neg h2] at h ⊢;by_cases h3:(t.take c.toNat).head? =some 0
  ·rw [if_pos h3] at h;simp at h
  rw [if_neg h3];have hl:(t.take c.toNat).length=c.toNat:=by rw [aX];omega
  have hd:(fm (gM (t.take c.toNat))).map UInt8.ofNat=t.take c.toNat:=Bz 8 _ (by omega) h3;have Bb:(fm (gM (t.take c.toNat))).length=c.toNat:=by
   have:=congrArg List.length hd;rw [bM,hl] at this;exact this
  have hn:numU (gM (t.take c.toNat))=c :: t.take c.toNat:=by
   unfold numU;rw [hd,Bb];congr 1;simp
  simp only [];rw [hn];refine ⟨?_,by simp;omega,by simp;omega⟩;rw [show 0+1+c.toNat=c.toNat+1 by omega,cU]
end Pt.Cd
namespace Pt.Cd
theorem Ef:∀f u,u < 256 ^ f->(fB f u).head?≠some 0:=by
 intro f;induction f with
 |zero=>intro u _;simp [fB]
 |succ f ih=>
  intro u h;unfold fB;split
  ·simp
  ·rename_i h0
   by_cases h1:u / 256=0
   ·have:fB f (u / 256)=[]:=by rw [h1];cases f <;> simp [fB]
    rw [this];simp;omega
   ·have h2:=ih (u / 256) (by rw [Nat.pow_succ] at h;omega)
    have hne:fB f (u / 256)≠[]:=by
     cases f with
     |zero=>simp at h;omega
     |succ f=>unfold fB;rw [if_neg h1];simp
    cases hd:fB f (u / 256) with
    |nil=>exact absurd hd hne
    |cons a l=>rw [hd] at h2;simpa using h2
theorem sx {k:Nat} (h:k < 256):(UInt8.ofNat k).toNat=k:=by rw [UInt8.toNat_ofNat'];omega
theorem CB (u:Nat):(numU u).length=(fm u).length+1:=by simp [numU]
theorem num_app {d:List UInt8} {a u:Nat} {rest:List UInt8} (hu:u < 18446744073709551616) (h:d.drop a=numU u++rest):numR d a=(a+(numU u).length,0,u):=by
 have h8:=ia u;have hk:=sx (k:=(fm u).length) (by omega);unfold numR;rw [h];unfold numU;simp only [aq,hk];rw [if_neg (by omega),if_neg (by simp)];have ht:((fm u).map UInt8.ofNat++rest).take (fm u).length=(fm u).map UInt8.ofNat:=by
  rw [List.take_append_of_le_length (by simp),az (by simp)]
 rw [ht];have hh:((fm u).map UInt8.ofNat).head?≠some 0:=by
  have h1:=Ef 8 u (lt8 hu);cases hd:fm u with
  |nil=>simp
  |cons x l=>
   unfold fm at hd;rw [hd] at h1;simp at h1 ⊢;intro e;have hx:=Bt 8 u x (by rw [hd];simp);have:=congrArg UInt8.toNat e;rw [sx hx] at this;exact h1 this
 rw [if_neg hh,EX hu];simp;omega
theorem text_app {d:List UInt8} {a:Nat} {t rest:List UInt8} (hl:t.length<=9223372036854775807) (h:d.drop a=textL t++rest):textS d a 0=(a+(textL t).length,0,t):=by
 have hu:u64 (t.length:Int)=t.length:=by unfold u64;omega
 unfold textL numL at h ⊢;rw [hu] at h ⊢;rw [bK] at h;have hn:=num_app (by omega) h;have hlen:=congrArg List.length h;simp only [ax,aO] at hlen;unfold textS;rw [if_pos rfl,hn];simp only [if_true];rw [if_neg (by omega)];rw [<-List.drop_drop,h,List.drop_left,List.take_left];simp [bh]
theorem numL_len (n:Int):1<=(numL n).length/\(numL n).length<=9:=by
 unfold numL;rw [CB];have:=ia (u64 n);omega
end Pt.Cd
section
open Go.Sort
section
variable {α:Type} [Inhabited α]
def mB (p:Nat->Bool):Nat->Nat->Nat->Nat
 |0,lo,_=>lo
 |f+1,lo,hi=>if lo < hi then (if p ((lo+hi) / 2) then mB p f ((lo+hi) / 2+1) hi else mB p f lo ((lo+hi) / 2)) else lo
theorem nj (p:Nat->Bool):∀(f lo hi:Nat),hi - lo < f->lo<=hi->(∀i j,lo<=i->i<=j->j < hi->p j=true->p i=true)->
  lo<=mB p f lo hi/\mB p f lo hi<=hi/\(∀i,lo<=i->i < mB p f lo hi->p i=true)/\(∀i,mB p f lo hi<=i->i < hi->p i=false)
 |0,lo,hi,h,_,_=>by omega
 |f+1,lo,hi,h,hle,hm=>by
  unfold mB;by_cases hlt:lo < hi
  ·rw [if_pos hlt]
   cases hp:p ((lo+hi) / 2) with
   |true=>
    simp only [if_true];obtain ⟨h1,h2,h3,h4⟩:=nj p f ((lo+hi) / 2+1) hi (by omega) (by omega) (fun i j a b c d=>hm i j (by omega) b c d);refine ⟨by omega,h2,fun i a b=>?_,h4⟩;rcases aG i ((lo+hi) / 2+1) with hi1|hi1
    ·exact hm i ((lo+hi) / 2) a (by omega) (by omega) hp
    ·exact h3 i hi1 b
   |false=>
    simp only [bR,if_false];obtain ⟨h1,h2,h3,h4⟩:=nj p f lo ((lo+hi) / 2) (by omega) (by omega) (fun i j a b c d=>hm i j a b (by omega) d);refine ⟨h1,by omega,h3,fun i a b=>?_⟩;rcases aG i ((lo+hi) / 2) with hi1|hi1
    ·exact h4 i a hi1
    ·cases hpi:p i with
     |false=>rfl
     |true=>rw [hm ((lo+hi) / 2) i (by omega) hi1 b hpi] at hp;cases hp
  ·rw [if_neg hlt]
   exact ⟨aB _,hle,fun i a b=>by omega,fun i a b=>by omega⟩
def A8 (d:Array α) (a b:Nat):Nat->Array α
 |0=>d
 |n+1=>swp (A8 d a b n) (a+n) (b+n)
theorem fW (d:Array α) (a b n:Nat):(A8 d a b n).size=d.size:=by
 induction n with
 |zero=>rfl
 |succ n ih=>rw [A8,size_swp,ih]
theorem uT (d:Array α) (a b:Nat):∀n,a+n<=b->b+n<=d.size->∀k,(A8 d a b n)[k]! =if a<=k/\k < a+n then d[b+(k - a)]! else if b<=k/\k < b+n then d[a+(k - b)]! else d[k]!
 |0,_,_,k=>by
  rw [if_neg (by omega),if_neg (by omega)];rfl
 |n+1,h1,h2,k=>by
  have ih:=uT d a b n (by omega) (by omega);rw [A8,swp_get _ (by rw [fW];omega) (by rw [fW];omega)];by_cases c1:k=b+n
  ·subst c1
   simp only [if_true];rw [ih,if_neg (by omega),if_neg (by omega),if_neg (by omega),if_pos (by omega)];congr 1;omega
  ·rw [if_neg c1]
   by_cases c2:k=a+n
   ·subst c2
    simp only [if_true];rw [ih,if_neg (by omega),if_neg (by omega),if_pos (by omega)];congr 1;omega
   ·rw [if_neg c2,ih]
    by_cases c3:a<=k/\k < a+n
    ·rw [if_pos c3,if_pos (by omega)]
    ·rw [if_neg c3,if_neg (by omega:¬ (a<=k/\k < a+(n+1)))]
     by_cases c4:b<=k/\k < b+n
     ·rw [if_pos c4,if_pos (by omega)]
     ·rw [if_neg c4,if_neg (by omega)]
theorem qc (d:Array α) (x y a b:Nat):∀n,x<=a->a+n<=b->b+n<=y->y<=d.size->PermIn x y d (A8 d a b n)
 |0,_,_,_,_=>permIn_refl _ _ _
 |n+1,h1,h2,h3,h4=>permIn_trans _ _ _ _ _ (qc d x y a b n h1 (by omega) (by omega) h4) (swp_permIn _ _ _ _ _ (by omega) (by omega) (by omega) (by omega) (by rw [fW];exact h4))
def lG:Nat->Array α->Nat->Nat->Nat->Array α
 |0,d,_,_,_=>d
 |f+1,d,m,i,j=>if i=j then A8 d (m - i) m i else if i > j then lG f (A8 d (m - i) m j) m (i - j) j else lG f (A8 d (m - i) (m+j - i) i) m i (j - i)
def Rot (d d':Array α) (m i j:Nat):Prop:=d'.size=d.size/\∀k,d'[k]! =if m - i<=k/\k < m - i+j then d[m+(k - (m - i))]! else if m - i+j<=k/\k < m+j then d[k - j]! else d[k]!
theorem rZ:∀(f:Nat) (d:Array α) (m i j:Nat),i+j<=f->0 < i->0 < j->i<=m->m+j<=d.size->Rot d (lG f d m i j) m i j/\PermIn (m - i) (m+j) d (lG f d m i j)
 |0,d,m,i,j,h,hi,_,_,_=>by omega
 |f+1,d,m,i,j,h,hi,hj,him,hsz=>by
  unfold lG;by_cases c1:i=j
  ·subst c1
   rw [if_pos rfl];refine ⟨⟨fW _ _ _ _,fun k=>?_⟩,qc _ _ _ _ _ _ (aB _) (by omega) (aB _) hsz⟩;rw [uT d (m - i) m i (by omega) hsz];by_cases e1:m - i<=k/\k < m - i+i
   ·rw [if_pos e1,if_pos e1]
   ·rw [if_neg e1,if_neg e1]
    by_cases e2:m<=k/\k < m+i
    ·rw [if_pos e2,if_pos (by omega)];congr 1;omega
    ·rw [if_neg e2,if_neg (by omega)]
  ·rw [if_neg c1]
   by_cases c2:i > j
   ·rw [if_pos c2]
    obtain ⟨⟨h1,h2⟩,h3⟩:=rZ f (A8 d (m - i) m j) m (i - j) j (by omega) (by omega) hj (by omega) (by rw [fW];exact hsz);have hg:=uT d (m - i) m j (by omega) hsz;refine ⟨⟨by rw [h1,fW],fun k=>?_⟩,permIn_trans _ _ _ _ _ (qc d (m - i) (m+j) _ _ _ (aB _) (by omega) (aB _) hsz) (permIn_mono _ _ _ _ _ _ (by omega) (aB _) (by rw [fW];exact hsz) h3)⟩;rw [h2 k];by_cases e1:m - i<=k/\k < m - i+j
    ·rw [if_neg (by omega),if_neg (by omega),hg,if_pos e1,if_pos e1]
    ·rw [if_neg e1]
     by_cases e2:m - i+j<=k/\k < m+j
     ·rw [if_pos e2]
      by_cases e3:m - (i - j)<=k/\k < m - (i - j)+j
      ·rw [if_pos e3,hg,if_neg (by omega),if_pos (by omega)];congr 1;omega
      ·rw [if_neg e3,if_pos (by omega),hg]
       by_cases e4:m<=k - j
       ·omega
       ·rw [if_neg (by omega),if_neg (by omega)]
     ·rw [if_neg e2,if_neg (by omega),if_neg (by omega),hg,if_neg e1,if_neg (by omega)]
   ·rw [if_neg c2]
    obtain ⟨⟨h1,h2⟩,h3⟩:=rZ f (A8 d (m - i) (m+j - i) i) m i (j - i) (by omega) hi (by omega) him (by rw [fW];omega);have hg:=uT d (m - i) (m+j - i) i (by omega) (by omega);refine ⟨⟨by rw [h1,fW],fun k=>?_⟩,permIn_trans _ _ _ _ _ (qc d (m - i) (m+j) _ _ _ (aB _) (by omega) (by omega) hsz) (permIn_mono _ _ _ _ _ _ (aB _) (by omega) (by rw [fW];exact hsz) h3)⟩;rw [h2 k];by_cases e1:m - i<=k/\k < m - i+j
    ·rw [if_pos e1]
     by_cases e2:k < m - i+(j - i)
     ·rw [if_pos (by omega),hg,if_neg (by omega),if_neg (by omega)]
     ·rw [if_neg (by omega)]
      by_cases e3:m - i+(j - i)<=k/\k < m+(j - i)
      ·rw [if_pos e3,hg,if_pos (by omega)];congr 1;omega
      ·omega
    ·rw [if_neg e1]
     by_cases e2:m - i+j<=k/\k < m+j
     ·rw [if_pos e2,if_neg (by omega),if_neg (by omega),hg,if_neg (by omega),if_pos (by omega)];congr 1;omega
     ·rw [if_neg e2,if_neg (by omega),if_neg (by omega),hg,if_neg (by omega),if_neg (by omega)]
def Kb (d:Array α) (a:Nat):Nat->Array α
 |0=>d
 |n+1=>swp (Kb d a n) (a+n) (a+n+1)
def Kc (d:Array α) (m:Nat):Nat->Array α
 |0=>d
 |n+1=>swp (Kc d m n) (m - n) (m - n - 1)
theorem qd (d:Array α) (a n:Nat):(Kb d a n).size=d.size:=by
 induction n with
 |zero=>rfl
 |succ n ih=>rw [Kb,size_swp,ih]
theorem qf (d:Array α) (m n:Nat):(Kc d m n).size=d.size:=by
 induction n with
 |zero=>rfl
 |succ n ih=>rw [Kc,size_swp,ih]
theorem GZ (d:Array α) (a:Nat):∀n,a+n < d.size->∀k,(Kb d a n)[k]! =if a<=k/\k < a+n then d[k+1]! else if k=a+n then d[a]! else d[k]!
 |0,_,k=>by
  rw [if_neg (by omega)];by_cases c:k=a+0
  ·rw [if_pos c,c];rfl
  ·rw [if_neg c];rfl
 |n+1,h,k=>by
  have ih:=GZ d a n (by omega);rw [Kb,swp_get _ (by rw [qd];omega) (by rw [qd];omega)];by_cases c1:k=a+n+1
  ·subst c1
   simp only [if_true];rw [ih,if_neg (by omega),if_pos rfl,if_neg (by omega),if_pos (by omega)]
  ·rw [if_neg c1]
   by_cases c2:k=a+n
   ·subst c2
    simp only [if_true];rw [ih,if_neg (by omega),if_neg (by omega),if_pos (by omega)]
   ·rw [if_neg c2,ih]
    by_cases c3:a<=k/\k < a+n
    ·rw [if_pos c3,if_pos (by omega)]
    ·rw [if_neg c3,if_neg c2,if_neg (by omega),if_neg (by omega)]
theorem Ga (d:Array α) (m:Nat) (hm:m < d.size):∀n,n<=m->∀k,(Kc d m n)[k]! =if m - n < k/\k<=m then d[k - 1]! else if k=m - n then d[m]! else d[k]!
 |0,_,k=>by
  rw [if_neg (by omega)];by_cases c:k=m - 0
  ·rw [if_pos c,c];rfl
  ·rw [if_neg c];rfl
 |n+1,h,k=>by
  have ih:=Ga d m hm n (by omega);rw [Kc,swp_get _ (by rw [qf];omega) (by rw [qf];omega)];by_cases c1:k=m - n - 1
  ·subst c1
   simp only [if_true];rw [ih,if_neg (by omega),if_pos rfl,if_neg (by omega),if_pos (by omega)]
  ·rw [if_neg c1]
   by_cases c2:k=m - n
   ·subst c2
    simp only [if_true];rw [ih,if_neg (by omega),if_neg (by omega),if_pos (by omega)]
   ·rw [if_neg c2,ih]
    by_cases c3:m - n < k/\k<=m
    ·rw [if_pos c3,if_pos (by omega)]
    ·rw [if_neg c3,if_neg c2,if_neg (by omega),if_neg (by omega)]
theorem CC (d:Array α) (x y a:Nat):∀n,x<=a->a+n < y->y<=d.size->PermIn x y d (Kb d a n)
 |0,_,_,_=>permIn_refl _ _ _
 |n+1,h1,h2,h3=>permIn_trans _ _ _ _ _ (CC d x y a n h1 (by omega) h3) (swp_permIn _ _ _ _ _ (by omega) (by omega) (by omega) (by omega) (by rw [qd];exact h3))
theorem CD (d:Array α) (x y m:Nat):∀n,x<=m - n->n<=m->m < y->y<=d.size->PermIn x y d (Kc d m n)
 |0,_,_,_,_=>permIn_refl _ _ _
 |n+1,h1,h2,h3,h4=>permIn_trans _ _ _ _ _ (CD d x y m n (by omega) (by omega) h3 h4) (swp_permIn _ _ _ _ _ (by omega) (by omega) (by omega) (by omega) (by rw [qf];exact h4))
variable (lt:α->α->Bool)
def kU (d:Array α) (a m b:Nat):Nat:=mB (fun c=>!lt d[(a+b) / 2+m - 1 - c]! d[c]!) (b+1) (if m > (a+b) / 2 then (a+b) / 2+m - b else a) (if m > (a+b) / 2 then (a+b) / 2 else m)
def je:Nat->Array α->Nat->Nat->Nat->Array α
 |0,d,_,_,_=>d
 |f+1,d,a,m,b=>
  if m - a=1 then Kb d a (mB (fun h=>lt d[h]! d[a]!) (b+1) m b - 1 - a)
  else if b - m=1 then Kc d m (m - mB (fun h=>!lt d[m]! d[h]!) (b+1) a m)
  else
   let s:=kU lt d a m b
   let e:=(a+b) / 2+m - s
   let d1:=if s < m/\m < e then lG (b+1) d m (m - s) (e - m) else d
   let d2:=if a < s/\s < (a+b) / 2 then je f d1 a s ((a+b) / 2) else d1
   if (a+b) / 2 < e/\e < b then je f d2 ((a+b) / 2) e b else d2
omit [Inhabited α] in
theorem lt_asymm (hS:SWO lt) {x y:α} (h:lt x y=true):lt y x=false:=by
 cases hc:lt y x with
 |false=>rfl
 |true=>have:=hS.trans _ _ _ h hc;rw [hS.irrefl] at this;cases this
variable {lt}
theorem gB (hS:SWO lt) {d:Array α} {a b i j:Nat} (h:SortedIn lt a b d) (h1:a<=i) (h2:i<=j) (h3:j < b):lt d[j]! d[i]! =false:=by
 rcases aG i j with hlt|hge
 ·exact h i j h1 hlt h3
 ·obtain rfl:i=j:=by omega
  exact hS.irrefl _
theorem LV (hS:SWO lt) {d:Array α} {a m b:Nat} (h1:m - a=1) (hmb:m < b) (hb:b<=d.size) (hs2:SortedIn lt m b d):
  PermIn a b d (Kb d a (mB (fun h=>lt d[h]! d[a]!) (b+1) m b - 1 - a))/\SortedIn lt a b (Kb d a (mB (fun h=>lt d[h]! d[a]!) (b+1) m b - 1 - a)):=by
 obtain ⟨q1,q2,q3,q4⟩:=nj (fun h=>lt d[h]! d[a]!) (b+1) m b (by omega) (by omega) (fun i j c1 c2 c3 c4=>by
  cases hc:lt d[i]! d[a]! with
  |true=>rfl
  |false=>have:=hS.ntrans _ _ _ (gB hS hs2 c1 c2 c3) hc;rw [this] at c4;cases c4)
 generalize mB (fun h=>lt d[h]! d[a]!) (b+1) m b=i at*;refine ⟨CC d a b a _ (aB _) (by omega) hb,fun x y hx hxy hy=>?_⟩;have hg:=GZ d a (i - 1 - a) (by omega);rw [hg y,hg x];have ei:a+(i - 1 - a)=i - 1:=by omega
 rw [ei];by_cases c1:a<=y/\y < i - 1
 ·rw [if_pos c1,if_pos (by omega)]
  exact hs2 _ _ (by omega) (by omega) (by omega)
 ·rw [if_neg c1]
  by_cases c2:y=i - 1
  ·rw [if_pos c2,if_pos (by omega)]
   exact lt_asymm lt hS (q3 (x+1) (by omega) (by omega))
  ·rw [if_neg c2]
   by_cases c3:a<=x/\x < i - 1
   ·rw [if_pos c3]
    exact hs2 _ _ (by omega) (by omega) hy
   ·rw [if_neg c3]
    by_cases c4:x=i - 1
    ·rw [if_pos c4]
     exact q4 y (by omega) hy
    ·rw [if_neg c4]
     exact hs2 _ _ (by omega) hxy hy
theorem Ij (hS:SWO lt) {d:Array α} {a m b:Nat} (h1:b - m=1) (ham:a < m) (hb:b<=d.size) (hs1:SortedIn lt a m d):
  PermIn a b d (Kc d m (m - mB (fun h=>!lt d[m]! d[h]!) (b+1) a m))/\SortedIn lt a b (Kc d m (m - mB (fun h=>!lt d[m]! d[h]!) (b+1) a m)):=by
 obtain ⟨q1,q2,q3,q4⟩:=nj (fun h=>!lt d[m]! d[h]!) (b+1) a m (by omega) (by omega) (fun i j c1 c2 c3 c4=>by
  simp only [Bool.not_eq_true'] at c4 ⊢;exact hS.ntrans _ _ _ c4 (gB hS hs1 c1 c2 c3))
 generalize mB (fun h=>!lt d[m]! d[h]!) (b+1) a m=i at*;refine ⟨CD d a b m _ (by omega) (by omega) (by omega) hb,fun x y hx hxy hy=>?_⟩;have hg:=Ga d m (by omega) (m - i) (by omega);have ei:m - (m - i)=i:=by omega
 rw [hg y,hg x,ei];by_cases c1:i < y/\y<=m
 ·rw [if_pos c1]
  by_cases c2:i < x/\x<=m
  ·rw [if_pos c2]
   exact hs1 _ _ (by omega) (by omega) (by omega)
  ·rw [if_neg c2]
   by_cases c3:x=i
   ·rw [if_pos c3]
    have:=q4 (y - 1) (by omega) (by omega);simp only [Bool.not_eq_false'] at this;exact lt_asymm lt hS this
   ·rw [if_neg c3]
    exact gB hS hs1 hx (by omega) (by omega)
 ·rw [if_neg c1]
  by_cases c3:y=i
  ·rw [if_pos c3,if_neg (by omega),if_neg (by omega)]
   have:=q3 x hx (by omega);simp only [Bool.not_eq_true'] at this;exact this
  ·rw [if_neg c3,if_neg (by omega),if_neg (by omega)]
   exact hs1 _ _ hx hxy (by omega)
theorem Il (hS:SWO lt) {d:Array α} {a m b:Nat} (ham:a < m) (hmb:m < b) (hs1:SortedIn lt a m d) (hs2:SortedIn lt m b d):
  a<=kU lt d a m b/\kU lt d a m b<=m/\kU lt d a m b<=(a+b) / 2/\(a+b) / 2+m<=b+kU lt d a m b/\
  (∀x y,a<=x->x < kU lt d a m b->(a+b) / 2+m - kU lt d a m b<=y->y < b->lt d[y]! d[x]! =false)/\
  (∀x y,m<=x->x < (a+b) / 2+m - kU lt d a m b->kU lt d a m b<=y->y < m->lt d[y]! d[x]! =false):=by
 have hM1:a<=(a+b) / 2:=by omega
 have hM2:(a+b) / 2 < b:=by omega
 have h2M:(a+b) / 2+(a+b) / 2<=a+b:=by omega
 have acN:a+b<=(a+b) / 2+(a+b) / 2+1:=by omega
 unfold kU;generalize (a+b) / 2=M at*;have key:∀lo hi,a<=lo->lo<=hi->hi<=m->hi<=M->M+m<=b+lo->(lo=a\/M+m=b+lo)->(hi=m\/hi=M)->
   let s:=mB (fun c=>!lt d[M+m - 1 - c]! d[c]!) (b+1) lo hi
   a<=s/\s<=m/\s<=M/\M+m<=b+s/\(∀x y,a<=x->x < s->M+m - s<=y->y < b->lt d[y]! d[x]! =false)/\(∀x y,m<=x->x < M+m - s->s<=y->y < m->lt d[y]! d[x]! =false):=by
  intro lo hi k1 k2 k3 k4 k5 k6 k7;obtain ⟨q1,q2,q3,q4⟩:=nj (fun c=>!lt d[M+m - 1 - c]! d[c]!) (b+1) lo hi (by omega) k2 (fun i j c1 c2 c3 c4=>by
   simp only [Bool.not_eq_true'] at c4 ⊢;have e1:=gB hS hs1 (i:=i) (j:=j) (by omega) c2 (by omega);have e2:=gB hS hs2 (i:=M+m - 1 - j) (j:=M+m - 1 - i) (by omega) (by omega) (by omega);exact hS.ntrans _ _ _ (hS.ntrans _ _ _ e2 c4) e1)
  generalize mB (fun c=>!lt d[M+m - 1 - c]! d[c]!) (b+1) lo hi=s at*;refine ⟨by omega,by omega,by omega,by omega,fun x y hx hxs hy hyb=>?_,fun x y hx hxe hy hym=>?_⟩
  ·have hlo:lo < s:=by omega
   have hp:=q3 (s - 1) (by omega) (by omega);simp only [Bool.not_eq_true'] at hp;have e0:M+m - 1 - (s - 1)=M+m - s:=by omega
   rw [e0] at hp;exact hS.ntrans _ _ _ (hS.ntrans _ _ _ (gB hS hs2 (i:=M+m - s) (j:=y) (by omega) hy hyb) hp) (gB hS hs1 hx (by omega) (by omega))
  ·have hhi:s < hi:=by omega
   have hp:=q4 s (aB _) hhi;simp only [Bool.not_eq_false'] at hp;have e1:=gB hS hs2 (i:=x) (j:=M+m - 1 - s) hx (by omega) (by omega);have e2:=gB hS hs1 (i:=s) (j:=y) (by omega) hy hym;cases hc:lt d[y]! d[x]! with
   |false=>rfl
   |true=>
    have e3:lt d[s]! d[M+m - 1 - s]! =false:=lt_asymm lt hS hp;cases hd:lt d[y]! d[M+m - 1 - s]! with
    |false=>rw [hS.ntrans _ _ _ hd e1] at hc;cases hc
    |true=>
     cases he:lt d[s]! d[y]! with
     |true=>rw [hS.trans _ _ _ he hd] at e3;cases e3
     |false=>
      have:=hS.ntrans _ _ _ (lt_asymm lt hS hd) e2;rw [hp] at this;cases this
 by_cases c:m > M
 ·rw [if_pos c,if_pos c]
  exact key (M+m - b) M (by omega) (by omega) (by omega) (aB _) (by omega) (.inr (by omega)) (.inr rfl)
 ·rw [if_neg c,if_neg c]
  exact key a m (aB _) (by omega) (aB _) (by omega) (by omega) (.inl rfl) (.inl rfl)
theorem oU (hS:SWO lt):∀(f:Nat) (d:Array α) (a m b:Nat),b - a<=f->a < m->m < b->b<=d.size->SortedIn lt a m d->SortedIn lt m b d->
  PermIn a b d (je lt f d a m b)/\SortedIn lt a b (je lt f d a m b)
 |0,d,a,m,b,h,h1,h2,_,_,_=>by omega
 |f+1,d,a,m,b,h,ham,hmb,hb,hs1,hs2=>by
  unfold je;by_cases c1:m - a=1
  ·rw [if_pos c1]
   exact LV hS c1 hmb hb hs2
  rw [if_neg c1];by_cases c2:b - m=1
  ·rw [if_pos c2]
   exact Ij hS c2 ham hb hs1
  rw [if_neg c2];obtain ⟨p1,p2,p3,p4,p5,p6⟩:=Il hS ham hmb hs1 hs2;have hM1:a < (a+b) / 2:=by omega
  have hM2:(a+b) / 2 < b:=by omega
  simp only;generalize kU lt d a m b=s at*;generalize (a+b) / 2=M at*;obtain ⟨e,he⟩:=dB (M+m - s);rw [<-he] at p5 p6 ⊢;have tX:∃d1,d1=(if s < m/\m < e then lG (b+1) d m (m - s) (e - m) else d):=⟨_,rfl⟩;obtain ⟨d1,tX⟩:=tX;rw [<-tX];have O3:PermIn a b d d1/\∀k,d1[k]! =if s<=k/\k < M then d[m+(k - s)]! else if M<=k/\k < e then d[k - (e - m)]! else d[k]!:=by
   rw [tX];by_cases c:s < m/\m < e
   ·rw [if_pos c]
    obtain ⟨⟨r1,r2⟩,r3⟩:=rZ (b+1) d m (m - s) (e - m) (by omega) (by omega) (by omega) (by omega) (by omega);refine ⟨permIn_mono _ _ _ _ _ _ (by omega) (by omega) hb r3,fun k=>?_⟩;rw [r2 k];have e1:m - (m - s)=s:=by omega
    have e2:s+(e - m)=M:=by omega
    have e3:m+(e - m)=e:=by omega
    rw [e1,e2,e3]
   ·rw [if_neg c]
    refine ⟨permIn_refl _ _ _,fun k=>?_⟩;by_cases k1:s<=k/\k < M
    ·rw [if_pos k1];congr 1;omega
    ·rw [if_neg k1]
     by_cases k2:M<=k/\k < e
     ·rw [if_pos k2];congr 1;omega
     ·rw [if_neg k2]
  obtain ⟨hp1,hg1⟩:=O3;have hz1:d1.size=d.size:=hp1.1;have t1:SortedIn lt a s d1:=fun x y hx hxy hy=>by rw [hg1,hg1,if_neg (by omega),if_neg (by omega),if_neg (by omega),if_neg (by omega)];exact hs1 x y hx hxy (by omega)
  have t2:SortedIn lt s M d1:=fun x y hx hxy hy=>by rw [hg1,hg1,if_pos (by omega),if_pos (by omega)];exact hs2 _ _ (by omega) (by omega) (by omega)
  have t3:SortedIn lt M e d1:=fun x y hx hxy hy=>by rw [hg1,hg1,if_neg (by omega),if_pos (by omega),if_neg (by omega),if_pos (by omega)];exact hs1 _ _ (by omega) (by omega) (by omega)
  have t4:SortedIn lt e b d1:=fun x y hx hxy hy=>by rw [hg1,hg1,if_neg (by omega),if_neg (by omega),if_neg (by omega),if_neg (by omega)];exact hs2 x y (by omega) hxy hy
  have Yi:∀x y,a<=x->x < M->M<=y->y < b->lt d1[y]! d1[x]! =false:=fun x y hx hxM hyM hy=>by
   rw [hg1 y,hg1 x];by_cases k1:s<=x/\x < M
   ·rw [if_pos k1,if_neg (by omega)]
    by_cases k2:M<=y/\y < e
    ·rw [if_pos k2];exact p6 _ _ (by omega) (by omega) (by omega) (by omega)
    ·rw [if_neg k2];exact gB hS hs2 (by omega) (by omega) hy
   ·rw [if_neg k1,if_neg (show ¬ (s<=y/\y < M) by omega),if_neg (show ¬ (M<=x/\x < e) by omega)]
    by_cases k2:M<=y/\y < e
    ·rw [if_pos k2];exact gB hS hs1 hx (by omega) (by omega)
    ·rw [if_neg k2];exact p5 _ _ hx (by omega) (by omega) hy
  clear hg1 p5 p6 tX;obtain ⟨d2,hd2⟩:=dB ((if a < s/\s < M then je lt f d1 a s M else d1));rw [<-hd2];have h2:PermIn a M d1 d2/\SortedIn lt a M d2:=by
   rw [hd2];by_cases c:a < s/\s < M
   ·rw [if_pos c]
    exact oU hS f d1 a s M (by omega) c.1 c.2 (by omega) t1 t2
   ·rw [if_neg c]
    refine ⟨permIn_refl _ _ _,?_⟩;by_cases k1:s=a
    ·subst k1;exact t2
    ·obtain rfl:s=M:=by omega
     exact t1
  obtain ⟨h2p,h2s⟩:=h2;have hz2:d2.size=d1.size:=h2p.1;have Di:∀k,M<=k->d2[k]! =d1[k]!:=fun k hk=>h2p.2.1 k (.inr hk)
  have t3':SortedIn lt M e d2:=fun x y hx hxy hy=>by rw [Di x hx,Di y (by omega)];exact t3 x y hx hxy hy
  have t4':SortedIn lt e b d2:=fun x y hx hxy hy=>by rw [Di x (by omega),Di y (by omega)];exact t4 x y hx hxy hy
  obtain ⟨d3,KG⟩:=dB ((if M < e/\e < b then je lt f d2 M e b else d2));rw [<-KG];have h3:PermIn M b d2 d3/\SortedIn lt M b d3:=by
   rw [KG];by_cases c:M < e/\e < b
   ·rw [if_pos c]
    exact oU hS f d2 M e b (by omega) c.1 c.2 (by omega) t3' t4'
   ·rw [if_neg c]
    refine ⟨permIn_refl _ _ _,?_⟩;by_cases k1:e=b
    ·subst k1;exact t3'
    ·obtain rfl:e=M:=by omega
     exact t4'
  obtain ⟨h3p,h3s⟩:=h3;refine ⟨permIn_trans _ _ _ _ _ hp1 (permIn_trans _ _ _ _ _ (permIn_mono _ _ _ _ _ _ (aB _) (by omega) (by omega) h2p) (permIn_mono _ _ _ _ _ _ (by omega) (aB _) (by omega) h3p)),fun x y hx hxy hy=>?_⟩;rcases aG y M with k|k
  ·rw [h3p.2.1 x (.inl (by omega)),h3p.2.1 y (.inl k)]
   exact h2s x y hx hxy k
  ·rcases aG x M with k2|k2
   ·rw [h3p.2.1 x (.inl k2)]
    refine permIn_all _ _ M b (fun u=>lt u d2[x]! =false) (by omega) h3p (fun i hi hib=>?_) y k hy;rw [Di i hi];exact permIn_all _ _ a M (fun v=>lt d1[i]! v=false) (by omega) h2p (fun j hj hjM=>Yi j i hj hjM hi hib) x hx k2
   ·exact h3s x y k2 hxy hy
variable (lt)
def jo:Nat->Array α->Nat->Nat->Array α
 |0,d,_,_=>d
 |f+1,d,a,n=>if a+20<=n then jo f (insertionSort lt d a (a+20)) (a+20) n else insertionSort lt d a n
def kV:Nat->Array α->Nat->Nat->Nat->Array α
 |0,d,_,_,_=>d
 |f+1,d,a,k,n=>if a+2*k<=n then kV f (je lt (n+1) d a (a+k) (a+2*k)) (a+2*k) k n else if a+k < n then je lt (n+1) d a (a+k) n else d
def jE:Nat->Array α->Nat->Nat->Array α
 |0,d,_,_=>d
 |f+1,d,k,n=>if k < n then jE f (kV lt (n+1) d 0 k n) (2*k) n else d
def ow (d:Array α):Array α:=jE lt (d.size+1) (jo lt (d.size+1) d 0 d.size) 20 d.size
variable {lt}
def Eg (lt:α->α->Bool) (d:Array α) (k n:Nat) (P:Nat->Prop):Prop:=∀q,P q->SortedIn lt (q*k) (min ((q+1)*k) n) d
theorem jT {d d':Array α} {a b:Nat} (h:SortedIn lt a b d) (hs:∀i,a<=i->i < b->d'[i]! =d[i]!):SortedIn lt a b d':=fun x y hx hxy hy=>by
 rw [hs x hx (by omega),hs y (by omega) hy];exact h x y hx hxy hy
theorem vO (hS:SWO lt) (n:Nat):∀(f:Nat) (d:Array α) (q:Nat),n < f+q*20->q*20<=n->n<=d.size->Eg lt d 20 n (fun p=>p < q)->
  PermIn 0 n d (jo lt f d (q*20) n)/\Eg lt (jo lt f d (q*20) n) 20 n (fun _=>True)
 |0,d,q,h,hq,_,_=>by omega
 |f+1,d,q,h,hq,hn,hB=>by
  unfold jo;by_cases c:q*20+20<=n
  ·rw [if_pos c]
   obtain ⟨h1,h2⟩:=insertionSort_holds (lt:=lt) hS d (q*20) (q*20+20) (by omega) (by omega);have e:q*20+20=(q+1)*20:=by omega
   have Sh:Eg lt (insertionSort lt d (q*20) (q*20+20)) 20 n (fun p=>p < q+1):=fun p hp=>by
    rcases aG p q with k|k
    ·exact jT (hB p k) (fun i hi hi2=>h1.2.1 i (.inl (by omega)))
    ·obtain rfl:p=q:=by omega
     rw [Nat.min_eq_left (by omega),<-e];exact h2
   obtain ⟨r1,r2⟩:=vO hS n f _ (q+1) (by omega) (by omega) (by rw [h1.1];exact hn) Sh;rw [<-e] at r1 r2;exact ⟨permIn_trans _ _ _ _ _ (permIn_mono _ _ _ _ _ _ (by omega) c hn h1) r1,r2⟩
  ·rw [if_neg c]
   obtain ⟨h1,h2⟩:=insertionSort_holds (lt:=lt) hS d (q*20) n (by omega) hn;refine ⟨permIn_mono _ _ _ _ _ _ (by omega) (aB _) hn h1,fun p _=>?_⟩;rcases aG p q with k|k
   ·exact jT (hB p k) (fun i hi hi2=>h1.2.1 i (.inl (by omega)))
   ·rcases aG q p with k2|k2
    ·intro x y hx hxy hy;omega
    ·obtain rfl:p=q:=by omega
     rw [cT (by omega)];exact h2
theorem vP (hS:SWO lt) (n k:Nat) (hk:0 < k):∀(f:Nat) (d:Array α) (q:Nat),n < f+q*(2*k)->n<=d.size->Eg lt d (2*k) n (fun p=>p < q)->(∀p,2*q<=p->SortedIn lt (p*k) (min ((p+1)*k) n) d)->
  q*(2*k)<=n->
  PermIn 0 n d (kV lt f d (q*(2*k)) k n)/\Eg lt (kV lt f d (q*(2*k)) k n) (2*k) n (fun _=>True)
 |0,d,q,h,_,_,_,hq=>by omega
 |f+1,d,q,h,hn,hB,hR,hq=>by
  unfold kV;have e0:(q+1)*(2*k)=q*(2*k)+2*k:=by rw [Nat.add_mul];omega
  have e1:2*q*k=q*(2*k):=by rw [Nat.mul_comm 2 q,Nat.mul_assoc]
  have e2:(2*q+1)*k=q*(2*k)+k:=by rw [Nat.add_mul,e1];omega
  have e3:(2*q+1+1)*k=q*(2*k)+2*k:=by rw [Nat.add_mul,e2];omega
  have far:∀p,p < q->(p+1)*(2*k)<=q*(2*k):=fun p hp=>bA _ hp
  by_cases c:q*(2*k)+2*k<=n
  ·rw [if_pos c]
   have s1:=hR (2*q) (aB _);have s2:=hR (2*q+1) (by omega);rw [e1,e2,Nat.min_eq_left (by omega)] at s1;rw [e2,e3,Nat.min_eq_left (by omega)] at s2;obtain ⟨h1,h2⟩:=oU hS (n+1) d (q*(2*k)) (q*(2*k)+k) (q*(2*k)+2*k) (by omega) (by omega) (by omega) (by omega) s1 s2;have Sh:Eg lt (je lt (n+1) d (q*(2*k)) (q*(2*k)+k) (q*(2*k)+2*k)) (2*k) n (fun p=>p < q+1):=fun p hp=>by
    rcases aG p q with k'|k'
    ·have:=far p k'
     exact jT (hB p k') (fun i hi hi2=>h1.2.1 i (.inl (by omega)))
    ·obtain rfl:p=q:=by omega
     rw [e0,Nat.min_eq_left c];exact h2
   obtain ⟨r1,r2⟩:=vP hS n k hk f _ (q+1) (by rw [e0];omega) (by rw [h1.1];exact hn) Sh (fun p hp=>jT (hR p (by omega)) (fun i hi hi2=>h1.2.1 i (.inr (by
    have:(2*q+1+1)*k<=p*k:=bA _ (by omega);omega)))) (by omega)
   rw [e0] at r1 r2;exact ⟨permIn_trans _ _ _ _ _ (permIn_mono _ _ _ _ _ _ (by omega) c hn h1) r1,r2⟩
  ·rw [if_neg c]
   by_cases c2:q*(2*k)+k < n
   ·rw [if_pos c2]
    have s1:=hR (2*q) (aB _);have s2:=hR (2*q+1) (by omega);rw [e1,e2,Nat.min_eq_left (by omega)] at s1;rw [e2,e3,cT (by omega)] at s2;obtain ⟨h1,h2⟩:=oU hS (n+1) d (q*(2*k)) (q*(2*k)+k) n (by omega) (by omega) c2 hn s1 s2;refine ⟨permIn_mono _ _ _ _ _ _ (by omega) (aB _) hn h1,fun p _=>?_⟩;rcases aG p q with k'|k'
    ·have:=far p k'
     exact jT (hB p k') (fun i hi hi2=>h1.2.1 i (.inl (by omega)))
    ·rcases aG q p with k2|k2
     ·have:(q+1)*(2*k)<=p*(2*k):=bA _ k2
      intro x y hx hxy hy;omega
     ·obtain rfl:p=q:=by omega
      rw [cT (by omega)];exact h2
   ·rw [if_neg c2]
    refine ⟨permIn_refl _ _ _,fun p _=>?_⟩;rcases aG p q with k'|k'
    ·exact hB p k'
    ·rcases aG q p with k2|k2
     ·have:(q+1)*(2*k)<=p*(2*k):=bA _ k2
      intro x y hx hxy hy;omega
     ·obtain rfl:p=q:=by omega
      have s1:=hR (2*p) (aB _);rw [e1,e2,cT (by omega)] at s1;rw [cT (by omega)];exact s1
theorem vQ (hS:SWO lt) (n:Nat):∀(f:Nat) (d:Array α) (k:Nat),n < f+k->0 < k->n<=d.size->Eg lt d k n (fun _=>True)->
  PermIn 0 n d (jE lt f d k n)/\SortedIn lt 0 n (jE lt f d k n)
 |0,d,k,h,hk,_,hB=>by
  unfold jE;refine ⟨permIn_refl _ _ _,?_⟩;have:=hB 0 trivial;rw [Nat.zero_mul,cT (by omega)] at this;exact this
 |f+1,d,k,h,hk,hn,hB=>by
  unfold jE;by_cases c:k < n
  ·rw [if_pos c]
   obtain ⟨h1,h2⟩:=vP hS n k hk (n+1) d 0 (by omega) hn (fun p hp=>by omega) (fun p _=>hB p trivial) (by omega);rw [Nat.zero_mul] at h1 h2;obtain ⟨r1,r2⟩:=vQ hS n f _ (2*k) (by omega) (by omega) (by rw [h1.1];exact hn) h2;exact ⟨permIn_trans _ _ _ _ _ h1 r1,r2⟩
  ·rw [if_neg c]
   refine ⟨permIn_refl _ _ _,?_⟩;have:=hB 0 trivial;rw [Nat.zero_mul,cT (by omega)] at this;exact this
theorem yW (hS:SWO lt) (d:Array α):PermIn 0 d.size d (ow lt d)/\SortedIn lt 0 d.size (ow lt d):=by
 unfold ow;obtain ⟨h1,h2⟩:=vO hS d.size (d.size+1) d 0 (by omega) (by omega) (aB _) (fun p hp=>by omega);rw [Nat.zero_mul] at h1 h2;obtain ⟨r1,r2⟩:=vQ hS d.size (d.size+1) _ 20 (by omega) (by omega) (by rw [h1.1];exact aB _) h2;exact ⟨permIn_trans _ _ _ _ _ h1 r1,r2⟩
end
end
section
structure It where
 path:By
 id:St
 dir:Bool
 mf:By
deriving Inhabited
def jK (xs:List Nd) (s:St):List By:=qb ((fc s xs).map Nd.nm)
def jU (xs:List Nd) (s:St):List (Nd×By):=(fc s xs).zip (jK xs s)
def jf (ahead:By) (q:Nd×By):It:=⟨ahead++q.2,q.1.id,q.1.dir,q.1.mf⟩
structure Vw where
 met:List St
 o:List It
def CE (ahead:By):List (Nd×By)->Vw->Option Vw
 | [],v=>some v
 |q :: r,v=>if q.1.id∈v.met then none else CE ahead r ⟨v.met++[q.1.id],v.o++[jf ahead q]⟩
def kW (f:St->By->Vw->Option Vw) (ahead:By):List (Nd×By)->Vw->Option Vw
 | [],v=>some v
 |q :: r,v=>if q.1.dir then (f q.1.id (ahead++q.2++[47]) v).bind (kW f ahead r) else kW f ahead r v
def ij (xs:List Nd):Nat->St->By->Vw->Option Vw
 |0,s,_,v=>if fc s xs=[] then some v else none
 |k+1,s,ahead,v=>(CE ahead (jU xs s) v).bind (kW (ij xs k) ahead (jU xs s))
def nM (xs:List Nd):Option (List It):=(ij xs 16 (0,0) [] ⟨[],[]⟩).map Vw.o
def eA (ps:List By):By:=ps.flatMap (· ++[47])
theorem qg (ps:List By) (g:By):eA (ps++[g])=eA ps++g++[47]:=by simp [eA]
inductive Pos (xs:List Nd):St->List By->Prop
 |root:Pos xs (0,0) []
 |sub {s:St} {ps:List By} {n:Nd} {g:By}:Pos xs s ps->(n,g)∈jU xs s->n.dir=true->Pos xs n.id (ps++[g])
def LW (xs:List Nd) (out:List It) (it:It):Prop:=
 ∃s ps n g,Pos xs s ps/\(n,g)∈jU xs s/\it=jf (eA ps) (n,g)/\ps.length < 16/\(s=(0,0)/\ps=[]\/∃u∈out,u.id=s/\u.dir=true/\u.path++[47]=eA ps)
theorem LW.mono {xs:List Nd} {out out':List It} {it:It} (h:LW xs out it) (hs:∀x∈out,x∈out'):LW xs out' it:=by
 obtain ⟨s,ps,n,g,h1,h2,h3,h4,h5⟩:=h;refine ⟨s,ps,n,g,h1,h2,h3,h4,?_⟩;rcases h5 with h5| ⟨u,hu,h6⟩
 ·exact .inl h5
 ·exact .inr ⟨u,hs u hu,h6⟩
structure A9 (xs:List Nd) (v:Vw):Prop where
 met:∀i,i∈v.met↔∃it∈v.o,it.id=i
 nodup:(v.o.map It.id).Nodup
 ok:∀it∈v.o,LW xs v.o it
def yX (out:List It) (s:St) (ps:List By):Prop:=s=(0,0)/\ps=[]\/∃u∈out,u.id=s/\u.dir=true/\u.path++[47]=eA ps
theorem yX.mono {out out':List It} {s:St} {ps:List By} (h:yX out s ps) (hs:∀x∈out,x∈out'):yX out' s ps:=by
 rcases h with h| ⟨u,hu,h6⟩
 ·exact .inl h
 ·exact .inr ⟨u,hs u hu,h6⟩
theorem AA {xs:List Nd} {s:St} {ps:List By} (hP:Pos xs s ps) (hl:ps.length < 16):∀(qs:List (Nd×By)) (v v':Vw),(∀q∈qs,q∈jU xs s)->yX v.o s ps->A9 xs v->CE (eA ps) qs v=some v'->
  A9 xs v'/\(∀x∈v.o,x∈v'.o)/\∀q∈qs,jf (eA ps) q∈v'.o
 | [],v,v',_,_,hv,h=>by
  simp only [CE,Option.some.injEq] at h;subst h;exact ⟨hv,fun _ hx=>hx,fun q hq=>by cases hq⟩
 |q :: r,v,v',hq,hh,hv,h=>by
  rw [CE] at h;by_cases c:q.1.id∈v.met
  ·rw [if_pos c] at h;cases h
  ·rw [if_neg c] at h
   have hsub:∀x∈v.o,x∈v.o++[jf (eA ps) q]:=fun x hx=>cZ _ hx
   have uG:A9 xs ⟨v.met++[q.1.id],v.o++[jf (eA ps) q]⟩:=by
    refine ⟨fun i=>?_,?_,fun it hit=>?_⟩
    ·simp only [aR,aj,bJ,or_false]
     rw [hv.met i];constructor
     ·rintro (⟨it,h1,h2⟩|rfl)
      ·exact ⟨it,.inl h1,h2⟩
      ·exact ⟨_,.inr rfl,rfl⟩
     ·rintro ⟨it,h1|rfl,h2⟩
      ·exact .inl ⟨it,h1,h2⟩
      ·exact .inr h2.symm
    ·simp only [bV,ai,List.map_nil]
     rw [cS];refine ⟨hv.nodup,by simp,fun a ha b hb e=>?_⟩;rw [aU] at hb;obtain ⟨it,h1,h2⟩:=aV.1 ha;exact c ((hv.met _).2 ⟨it,h1,by rw [h2,e,hb];rfl⟩)
    ·rcases aj.1 hit with h1|h1
     ·exact (hv.ok it h1).mono hsub
     ·rw [aU] at h1
      exact ⟨s,ps,q.1,q.2,hP,hq q (by simp),h1,hl,hh.mono hsub⟩
   obtain ⟨r1,r2,r3⟩:=AA hP hl r _ v' (fun x hx=>hq x (by simp [hx])) (hh.mono hsub) uG h;refine ⟨r1,fun x hx=>r2 x (hsub x hx),fun x hx=>?_⟩;rcases aR.1 hx with rfl|hx
   ·exact r2 _ (by simp)
   ·exact r3 x hx
theorem AB {xs:List Nd} {s:St} {ps:List By} (hP:Pos xs s ps) (f:St->By->Vw->Option Vw)
  (hf:∀q∈jU xs s,q.1.dir=true->∀v v',yX v.o q.1.id (ps++[q.2])->A9 xs v->f q.1.id (eA (ps++[q.2])) v=some v'->A9 xs v'/\∀x∈v.o,x∈v'.o):
  ∀(qs:List (Nd×By)) (v v':Vw),(∀q∈qs,q∈jU xs s)->(∀q∈qs,jf (eA ps) q∈v.o)->A9 xs v->kW f (eA ps) qs v=some v'->A9 xs v'/\∀x∈v.o,x∈v'.o
 | [],v,v',_,_,hv,h=>by
  simp only [kW,Option.some.injEq] at h;subst h;exact ⟨hv,fun _ hx=>hx⟩
 |q :: r,v,v',hq,hi,hv,h=>by
  rw [kW] at h;by_cases c:q.1.dir=true
  ·rw [if_pos c] at h
   cases hg:f q.1.id (eA ps++q.2++[47]) v with
   |none=>rw [hg] at h;cases h
   |some v1=>
    rw [hg,Option.bind_some] at h;obtain ⟨a1,a2⟩:=hf q (hq q (by simp)) c v v1 (.inr ⟨jf (eA ps) q,hi q (by simp),rfl,c,by rw [qg];rfl⟩) hv (by rw [qg];exact hg);obtain ⟨b1,b2⟩:=AB hP f hf r v1 v' (fun x hx=>hq x (by simp [hx])) (fun x hx=>a2 _ (hi x (by simp [hx]))) a1 h;exact ⟨b1,fun x hx=>b2 x (a2 x hx)⟩
  ·rw [if_neg c] at h
   exact AB hP f hf r v v' (fun x hx=>hq x (by simp [hx])) (fun x hx=>hi x (by simp [hx])) hv h
theorem Gb {xs:List Nd}:∀(k:Nat) (s:St) (ps:List By) (v v':Vw),Pos xs s ps->ps.length+k=16->yX v.o s ps->A9 xs v->ij xs k s (eA ps) v=some v'->A9 xs v'/\∀x∈v.o,x∈v'.o
 |0,s,ps,v,v',hP,hl,hh,hv,h=>by
  rw [ij] at h;by_cases c:fc s xs=[]
  ·rw [if_pos c,Option.some.injEq] at h
   subst h;exact ⟨hv,fun _ hx=>hx⟩
  ·rw [if_neg c] at h;cases h
 |k+1,s,ps,v,v',hP,hl,hh,hv,h=>by
  rw [ij] at h;cases hg:CE (eA ps) (jU xs s) v with
  |none=>rw [hg] at h;cases h
  |some v1=>
   rw [hg,Option.bind_some] at h;obtain ⟨a1,a2,a3⟩:=AA hP (by omega) _ _ _ (fun q hq=>hq) hh hv hg;obtain ⟨b1,b2⟩:=AB hP (ij xs k) (fun q hq hd v v' hh hv h=>Gb k q.1.id (ps++[q.2]) v v' (Pos.sub hP hq hd) (by simp;omega) hh hv h) _ _ _ (fun q hq=>hq) a3 a1 h;exact ⟨b1,fun x hx=>b2 x (a2 x hx)⟩
theorem uU {xs:List Nd} {out:List It} (h:nM xs=some out):(out.map It.id).Nodup/\∀it∈out,LW xs out it:=by
 unfold nM at h;cases hg:ij xs 16 (0,0) [] ⟨[],[]⟩ with
 |none=>rw [hg] at h;cases h
 |some v=>
  rw [hg,bU,Option.some.injEq] at h;subst h;obtain ⟨a,_⟩:=Gb (xs:=xs) 16 (0,0) [] ⟨[],[]⟩ v Pos.root rfl (.inl ⟨rfl,rfl⟩) ⟨fun i=>by simp,by simp,fun it hit=>by cases hit⟩ hg;exact ⟨a.nodup,a.ok⟩
theorem qh {xs:List Nd} {s:St} {n:Nd} {g:By} (h:(n,g)∈jU xs s):n∈xs/\n.par=s/\g∈jK xs s:=by
 unfold jU at h;have h1:=(List.of_mem_zip h).1;unfold fc at h1;rw [List.mem_filter] at h1;exact ⟨h1.1,of_decide_eq_true h1.2,(List.of_mem_zip h).2⟩
theorem uV (s:St) (xs:List Nd):(fc s xs).length<=xs.length:=List.length_filter_le _ _
theorem iS {xs:List Nd} (hx:xs.length<=80) (hr:∀n∈xs,rightN n.nm=true) (s:St) {g:By} (h:g∈jK xs s):rightN g=true:=by
 have:=uV s xs;refine (rY (l:=(fc s xs).map Nd.nm) (by rw [bM];omega)).2.2 (fun x hx=>?_) g h;obtain ⟨n,hn,rfl⟩:=aV.1 hx;unfold fc at hn;exact hr n (List.mem_filter.1 hn).1
theorem Gc {xs:List Nd} (hx:xs.length<=80) {s:St} {n m:Nd} {g:By} (h1:(n,g)∈jU xs s) (h2:(m,g)∈jU xs s):n=m:=by
 have hl:=uV s xs;obtain ⟨u1,u2,_⟩:=rY (l:=(fc s xs).map Nd.nm) (by rw [bM];omega);unfold jU at h1 h2;obtain ⟨i,hi,e1⟩:=bY.1 h1;obtain ⟨j,hj,e2⟩:=bY.1 h2;rw [List.getElem_zip] at e1 e2;have f1:=Prod.mk.inj e1;have f2:=Prod.mk.inj e2;have hp:=dA.1 u2;have hij:i=j:=by
  rcases Nat.lt_trichotomy i j with k|k|k
  ·exact absurd (f1.2.trans f2.2.symm) (hp i j _ _ k)
  ·exact k
  ·exact absurd (f2.2.trans f1.2.symm) (hp j i _ _ k)
 subst hij;exact f1.1.symm.trans f2.1
theorem oV {g:By} (h:rightN g=true):(47:UInt8)∉g:=fun hm=>by
 have:=(fR.1 h).2.2.2.2.2.2 _ hm;exact absurd this (by decide)
theorem yY:∀{p q r t:By},(47:UInt8)∉p->(47:UInt8)∉q->p++47 :: r=q++47 :: t->p=q/\r=t
 | [],[],r,t,_,_,h=>by simpa using h
 | [],y :: q,r,t,_,hq,h=>by simp at h;exact absurd (by simp [<-h.1]) hq
 |x :: p,[],r,t,hp,_,h=>by simp at h;exact absurd (by simp [h.1]) hp
 |x :: p,y :: q,r,t,hp,hq,h=>by
  simp only [aq,List.cons.injEq] at h;obtain ⟨a,b⟩:=yY (fun hm=>hp (by simp [hm])) (fun hm=>hq (by simp [hm])) h.2;exact ⟨by rw [h.1,a],b⟩
theorem CF:∀{ps qs:List By} {g h:By},(∀p∈ps,(47:UInt8)∉p)->(∀p∈qs,(47:UInt8)∉p)->(47:UInt8)∉g->(47:UInt8)∉h->eA ps++g=eA qs++h->ps=qs/\g=h
 | [],[],g,h,_,_,_,_,e=> ⟨rfl,by simpa [eA] using e⟩
 | [],q :: qs,g,h,_,_,hg,_,e=>by
  exfalso;apply hg;have:g=q++47 :: (eA qs++h):=by simpa [eA] using e
  rw [this];simp
 |p :: ps,[],g,h,_,_,_,hh,e=>by
  exfalso;apply hh;have:p++47 :: (eA ps++g)=h:=by simpa [eA] using e
  rw [<-this];simp
 |p :: ps,q :: qs,g,h,hp,hq,hg,hh,e=>by
  have e1:p++47 :: (eA ps++g)=q++47 :: (eA qs++h):=by simpa [eA] using e
  obtain ⟨a,b⟩:=yY (hp p (by simp)) (hq q (by simp)) e1;obtain ⟨c,d⟩:=CF (fun x hx=>hp x (by simp [hx])) (fun x hx=>hq x (by simp [hx])) hg hh b;exact ⟨by rw [a,c],d⟩
theorem Pos.right {xs:List Nd} (hx:xs.length<=80) (hr:∀n∈xs,rightN n.nm=true) {s:St} {ps:List By} (h:Pos xs s ps):∀p∈ps,rightN p=true:=by
 induction h with
 |root=>intro p hp;cases hp
 |sub h1 h2 _ ih=>
  intro p hp;rcases aj.1 hp with h|h
  ·exact ih p h
  ·rw [aU] at h
   subst h;exact iS hx hr _ (qh h2).2.2
theorem Pos.inj {xs:List Nd} (hx:xs.length<=80) {s:St} {ps:List By} (h:Pos xs s ps):∀{t:St},Pos xs t ps->s=t:=by
 induction h with
 |root=>
  intro t h;generalize hps:([]:List By)=ps at h;cases h with
  |root=>rfl
  |sub=>simp at hps
 | @sub s ps n g h1 h2 _ ih=>
  intro t h;generalize hps:ps++[g]=qs at h;cases h with
  |root=>simp at hps
  | @sub s' ps' n' g' k1 k2 _=>
   obtain ⟨e1,e2⟩:=List.append_inj' hps rfl;simp only [List.cons.injEq,and_true] at e2;subst e1 e2;have:=ih k1;subst this;rw [Gc hx h2 k2]
theorem CG {xs:List Nd} (hx:xs.length<=80) (hr:∀n∈xs,rightN n.nm=true) {out:List It} (h:nM xs=some out):(out.map It.path).Nodup:=by
 obtain ⟨h1,h2⟩:=uU h;rw [List.Nodup,cN] at h1 ⊢;refine List.Pairwise.imp_of_mem (fun {a b} ha hb hab e=>hab ?_) h1;obtain ⟨s,ps,n,g,p1,p2,p3,_,_⟩:=h2 a ha;obtain ⟨t,qs,m,k,q1,q2,q3,_,_⟩:=h2 b hb;have e1:eA ps++g=eA qs++k:=by
  have:=e;rw [p3,q3] at this;exact this
 obtain ⟨rfl,rfl⟩:=CF (fun p hp=>oV (p1.right hx hr p hp)) (fun p hp=>oV (q1.right hx hr p hp)) (oV (iS hx hr _ (qh p2).2.2)) (oV (iS hx hr _ (qh q2).2.2)) e1;have:=p1.inj hx q1;subst this;rw [p3,q3,Gc hx p2 q2]
def eW:By->List By
 | []=>[[]]
 |c :: r=>if c=47 then [] :: eW r else match eW r with
  | []=>[[c]]
  |p :: ps=>(c :: p) :: ps
theorem pn:∀{g:By},(47:UInt8)∉g->eW g=[g]
 | [],_=>rfl
 |c :: r,h=>by
  have hc:c≠47:=fun e=>h (by simp [e])
  rw [eW,if_neg hc,pn (fun hm=>h (by simp [hm]))]
theorem pq:∀{p r:By},(47:UInt8)∉p->eW (p++47 :: r)=p :: eW r
 | [],r,_=>by rw [af,eW,if_pos rfl]
 |c :: p,r,h=>by
  have hc:c≠47:=fun e=>h (by simp [e])
  rw [aq,eW,if_neg hc,pq (fun hm=>h (by simp [hm]))]
theorem vR:∀{ps:List By} {g:By},(∀p∈ps,(47:UInt8)∉p)->(47:UInt8)∉g->eW (eA ps++g)=ps++[g]
 | [],g,_,hg=>by simpa [eA] using pn hg
 |p :: ps,g,hp,hg=>by
  have:eA (p :: ps)++g=p++47 :: (eA ps++g):=by simp [eA]
  rw [this,pq (hp p (by simp)),vR (fun x hx=>hp x (by simp [hx])) hg];rfl
def nk (s:By):Bool:=decide ((eW s).length<=16) && (eW s).all rightN
def lS (path below:By):Bool:=decide (below=[46]) || decide (path=below) || ((below++[47]).isPrefixOf path && !decide (path=below++[47]))
structure LX (xs:List Nd) (out:List It) (it:It) (n:Nd):Prop where
 mem:n∈xs
 id:n.id=it.id
 path:nk it.path=true
 up:n.par=(0,0)\/∃u∈out,u.id=n.par/\u.dir=true/\lS it.path u.path=true
theorem Pw {xs:List Nd} (hx:xs.length<=80) (hr:∀n∈xs,rightN n.nm=true) {out:List It} (h:nM xs=some out) {it:It} (hi:it∈out):∃n,LX xs out it n:=by
 obtain ⟨h1,h2⟩:=uU h;obtain ⟨s,ps,n,g,p1,p2,p3,p4,p5⟩:=h2 it hi;obtain ⟨k1,k2,k3⟩:=qh p2;have hg:=iS hx hr _ k3;have hps:=p1.right hx hr;refine ⟨n,k1,by rw [p3];rfl,?_,?_⟩
 ·rw [p3]
  show nk (eA ps++g)=true;unfold nk;rw [vR (fun p hp=>oV (hps p hp)) (oV hg)];simp only [aO,aQ,ah,bL,decide_eq_true_eq,List.all_eq_true,aj,aU];refine ⟨by omega,fun x hx=>?_⟩;rcases hx with hx|rfl
  ·exact hps x hx
  ·exact hg
 ·rcases p5 with ⟨rfl,_⟩| ⟨u,hu,u1,u2,u3⟩
  ·exact .inl k2
  ·refine .inr ⟨u,hu,by rw [u1,k2],u2,?_⟩
   have hne:g≠[]:=fun e=>by rw [e] at hg;exact absurd hg (by decide)
   have hp:it.path=(u.path++[47])++g:=by rw [p3,u3];rfl
   unfold lS;rw [Bool.or_eq_true,bL];refine .inr ⟨?_,?_⟩
   ·rw [hp];exact List.isPrefixOf_iff_prefix.2 (List.prefix_append _ _)
   ·rw [Bool.not_eq_true',decide_eq_false_iff_not,hp]
    intro e;exact hne (by simpa using e)
end
section
open Go.Sort
def pz (a b:It):Bool:=decide (a.path < b.path)
theorem Eh:SWO pz where
 irrefl x:=by simp [pz,List.lt_irrefl]
 trans x y z h1 h2:=by simp only [pz,decide_eq_true_eq] at*;exact List.lt_trans h1 h2
 ntrans x y z h1 h2:=by
  simp only [pz,decide_eq_false_iff_not,List.not_lt] at*;exact List.le_trans h2 h1
def jg (out:List It):List It:=(ow pz out.toArray).toList
theorem iT (out:List It):(jg out).Perm out/\(jg out).Pairwise fun a b=>pz b a=false:=by
 obtain ⟨⟨h1,_,h2⟩,h3⟩:=yW Eh out.toArray;have e1:(ow pz out.toArray).extract 0 out.toArray.size=ow pz out.toArray:=by rw [<-h1];simp
 have e2:out.toArray.extract 0 out.toArray.size=out.toArray:=by simp
 rw [e1,e2] at h2;refine ⟨h2,?_⟩;rw [dA];intro i j hi hj hij;have hi':i < (ow pz out.toArray).size:=hi;have hj':j < (ow pz out.toArray).size:=hj;have:=h3 i j (aT _) hij (by rw [<-h1];exact hj');rw [getElem!_pos _ i hi',getElem!_pos _ j hj'] at this;exact this
def iC (xs:List Nd):Option (List It):=(nM xs).map jg
theorem nr {xs:List Nd} (hx:xs.length<=80) (hr:∀n∈xs,rightN n.nm=true) {ys:List It} (h:iC xs=some ys):
  ∃out,nM xs=some out/\ys.Perm out/\ys.Pairwise fun a b=>a.path < b.path:=by
 unfold iC at h;cases hu:nM xs with
 |none=>rw [hu] at h;cases h
 |some out=>
  rw [hu,bU,Option.some.injEq] at h;subst h;obtain ⟨h1,h2⟩:=iT out;refine ⟨out,rfl,h1,?_⟩;have h3:((jg out).map It.path).Nodup:=(h1.map It.path).nodup_iff.2 (CG hx hr hu);rw [List.Nodup,cN] at h3;refine (h2.and h3).imp fun {a b} hab=>?_
  have h4:¬ b.path < a.path:=of_decide_eq_false hab.1;by_cases h:a.path < b.path
  ·exact h
  ·exact absurd (List.le_antisymm (List.not_lt.1 h4) (List.not_lt.1 h)) hab.2
theorem CH {xs:List Nd} (hx:xs.length<=80) (hr:∀n∈xs,rightN n.nm=true) {ys:List It} (h:iC xs=some ys) {it:It} (hi:it∈ys):∃n,LX xs ys it n:=by
 obtain ⟨out,h1,h2,_⟩:=nr hx hr h;obtain ⟨n,a,b,c,d⟩:=Pw hx hr h1 (h2.mem_iff.1 hi);refine ⟨n,a,b,c,?_⟩;rcases d with d| ⟨u,hu,k⟩
 ·exact .inl d
 ·exact .inr ⟨u,h2.mem_iff.2 hu,k⟩
theorem Im {xs:List Nd} (hx:xs.length<=80) (hr:∀n∈xs,rightN n.nm=true) {ys:List It} (h:iC xs=some ys):(ys.map It.id).Nodup:=by
 obtain ⟨out,h1,h2,_⟩:=nr hx hr h;exact (h2.map It.id).nodup_iff.2 (uU h1).1
end
namespace Pt
def s0 (a:Nat):Nat:=tr a 1 ^^^ tr a 8 ^^^ a / 128
def s1 (b:Nat):Nat:=tr b 19 ^^^ tr b 61 ^^^ b / 64
def fO (a b:Nat):Nat:=(a+b) % 18446744073709551616
def mC (l:List UInt8) (ws:List Nat):Nat:=
 if ws.length < 16 then ou ((l.drop (8*ws.length)).take 8)
 else fO (fO (fO (ws.getD (ws.length - 16) 0) (ws.getD (ws.length - 7) 0)) (s0 (ws.getD (ws.length - 15) 0))) (s1 (ws.getD (ws.length - 2) 0))
def LY (l:List UInt8) (ws:List Nat):List Nat:=ws++[mC l ws]
def dy (l:List UInt8):Nat->List Nat
 |0=>[]
 |n+1=>LY l (dy l n)
theorem iM (l:List UInt8):∀n,(dy l n).length=n
 |0=>rfl
 |n+1=>by simp [dy,LY,iM l n]
def pJ (x:Nat):Prop:=x < 18446744073709551616
theorem gX (a b:Nat):pJ (fO a b):=Nat.mod_lt _ (by decide)
theorem jF {x n:Nat} (h:pJ x):pJ (tr x n):=by
 unfold tr pJ at*;have e:18446744073709551616=2 ^ 64:=rfl;rw [e];exact Nat.or_lt_two_pow (Nat.lt_of_le_of_lt (Nat.div_le_self _ _) h) (Nat.mod_lt _ (by decide))
theorem mD {a b:Nat} (ha:pJ a) (hb:pJ b):pJ (a ^^^ b):=Nat.xor_lt_two_pow (n:=64) ha hb
theorem kY {a b:Nat} (ha:pJ a):pJ (a &&& b):=Nat.lt_of_le_of_lt Nat.and_le_left ha
theorem CI {a n:Nat} (ha:pJ a):pJ (a / n):=Nat.lt_of_le_of_lt (Nat.div_le_self _ _) ha
theorem Px (l:List UInt8) (h:l.length<=8):pJ (ou l):=by
 have key:∀k,k<=l.length->ou (l.take k) < 256 ^ k:=by
  intro k;induction k with
  |zero=>intro _;simp [ou]
  |succ k ih=>intro hk;rw [yS l k (by omega)];exact vE _ _ _ (ih (by omega))
 have:=key l.length (aB _);rw [bz] at this;exact aN this (show 256 ^ l.length<=256 ^ 8 from Nat.pow_le_pow_right (by decide) h)
theorem LZ (l:List UInt8) (ws:List Nat):pJ (mC l ws):=by
 unfold mC;split
 ·exact Px _ (by simp;omega)
 ·exact gX _ _
structure V8 where
 (a b c d e f g h:Nat)
def V8.list (v:V8):List Nat:=[v.a,v.b,v.c,v.d,v.e,v.f,v.g,v.h]
def V8.ok (v:V8):Prop:=pJ v.a/\pJ v.b/\pJ v.c/\pJ v.d/\pJ v.e/\pJ v.f/\pJ v.g/\pJ v.h
def La (x:Nat):Nat:=18446744073709551615 ^^^ x
def xx (v:V8) (k w:Nat):Nat:=
 fO (fO (fO (fO v.h (tr v.e 14 ^^^ tr v.e 18 ^^^ tr v.e 41)) ((v.e &&& v.f) ^^^ (La v.e &&& v.g))) k) w
def yy (v:V8):Nat:=fO (tr v.a 28 ^^^ tr v.a 34 ^^^ tr v.a 39) ((v.a &&& v.b) ^^^ (v.a &&& v.c) ^^^ (v.b &&& v.c))
def rnd (v:V8) (k w:Nat):V8:=⟨fO (xx v k w) (yy v),v.a,v.b,v.c,fO v.d (xx v k w),v.e,v.f,v.g⟩
def Py (x y:V8):V8:=⟨fO x.a y.a,fO x.b y.b,fO x.c y.c,fO x.d y.d,fO x.e y.e,fO x.f y.f,fO x.g y.g,fO x.h y.h⟩
theorem Td {v:V8} (k w:Nat) (h:v.ok):(rnd v k w).ok:=⟨gX _ _,h.1,h.2.1,h.2.2.1,gX _ _,h.2.2.2.2.1,h.2.2.2.2.2.1,h.2.2.2.2.2.2.1⟩
theorem Pz (x y:V8):(Py x y).ok:=⟨gX _ _,gX _ _,gX _ _,gX _ _,gX _ _,gX _ _,gX _ _,gX _ _⟩
def pK:List Nat:=[
 4794697086780616226,8158064640168781261,13096744586834688815,16840607885511220156,
 4131703408338449720,6480981068601479193,10538285296894168987,12329834152419229976,
 15566598209576043074,1334009975649890238,2608012711638119052,6128411473006802146,
 8268148722764581231,9286055187155687089,11230858885718282805,13951009754708518548,
 16472876342353939154,17275323862435702243,1135362057144423861,2597628984639134821,
 3308224258029322869,5365058923640841347,6679025012923562964,8573033837759648693,
 10970295158949994411,12119686244451234320,12683024718118986047,13788192230050041572,
 14330467153632333762,15395433587784984357,489312712824947311,1452737877330783856,
 2861767655752347644,3322285676063803686,5560940570517711597,5996557281743188959,
 7280758554555802590,8532644243296465576,9350256976987008742,10552545826968843579,
 11727347734174303076,12113106623233404929,14000437183269869457,14369950271660146224,
 15101387698204529176,15463397548674623760,17586052441742319658,1182934255886127544,
 1847814050463011016,2177327727835720531,2830643537854262169,3796741975233480872,
 4115178125766777443,5681478168544905931,6601373596472566643,7507060721942968483,
 8399075790359081724,8693463985226723168,9568029438360202098,10144078919501101548,
 10430055236837252648,11840083180663258601,13761210420658862357,14299343276471374635,
 14566680578165727644,15097957966210449927,16922976911328602910,17689382322260857208,
 500013540394364858,748580250866718886,1242879168328830382,1977374033974150939,
 2944078676154940804,3659926193048069267,4368137639120453308,4836135668995329356,
 5532061633213252278,6448918945643986474,6902733635092675308,7801388544844847127]
def rounds (ws:List Nat) (v:V8):Nat->V8
 |0=>v
 |n+1=>rnd (rounds ws v n) (pK.getD n 0) (ws.getD n 0)
theorem yZ (ws:List Nat) {v:V8} (h:v.ok):∀n,(rounds ws v n).ok
 |0=>h
 |n+1=>Td _ _ (yZ ws h n)
def Ei (v:V8) (l:List UInt8):V8:=Py v (rounds (dy l 80) v 80)
def iD (v:V8) (s:List UInt8):Nat->V8
 |0=>v
 |n+1=>Ei (iD v s n) ((s.drop (128*n)).take 128)
def start:V8:=⟨7640891576956012808,13503953896175478587,4354685564936845355,11912009170470909681,5840696475078001361,11170449401992604703,2270897969802886507,6620516959819538809⟩
theorem Lb:start.ok:=by unfold V8.ok pJ start;decide
end Pt
namespace Pt
def gu (n:Nat):Nat:=(239 - n % 128) % 128
def ji (l:List UInt8):List UInt8:=l++128 :: List.replicate (gu l.length) 0++vH 0++vH (8*l.length)
def AD (v:V8):List UInt8:=v.list.flatMap vH
def sumL (l:List UInt8):List UInt8:=AD (iD start (ji l) ((ji l).length / 128))
theorem Lc (l:List UInt8):(ji l).length % 128=0/\128<=(ji l).length:=by
 unfold ji gu;simp [vH];omega
theorem vS (l:List UInt8):(sumL l).length=64:=by simp [sumL,AD,V8.list,vH]
end Pt
namespace Pt
open Go.RowKit
def keyL (s:List UInt8):List UInt8:=(sumL s).take 32
theorem keyL_len (s:List UInt8):(keyL s).length=32:=by unfold keyL;rw [aX,vS];rfl
theorem ya (d:List UInt8) (k:Nat):(piece d k).length<=256:=by unfold piece;rw [aX];omega
theorem nt (d:List UInt8):(cutL d).length=pieces d.length:=by simp [cutL]
theorem Q0 {d:List UInt8} {k:Nat} (h:k < (cutL d).length):(cutL d)[k]=piece d k:=by simp [cutL]
def manL (d:List UInt8):List UInt8:=Cd.numL d.length++(cutL d).flatMap keyL
def nN (r:List UInt8) (k:Nat):List UInt8:=(r.drop (32*k)).take 32
def jq (r:List UInt8) (k:Nat):List (List UInt8):=(List.range k).map (nN r)
def keysL (m:List UInt8):List (List UInt8)×Int×Int:=
 if m=[] then ([],0,0)
 else if (Cd.rnumR m).2.1=0/\1<=Cd.toI (Cd.rnumR m).2.2/\Cd.toI (Cd.rnumR m).2.2<=4096/\(Cd.rnumR m).1.length=32*pieces (Cd.rnumR m).2.2 then (jq (Cd.rnumR m).1 (pieces (Cd.rnumR m).2.2),Cd.toI (Cd.rnumR m).2.2,0)
 else ([],0,11)
theorem Io:keysL []=([],0,0):=rfl
theorem vT {m:List UInt8} (h:m≠[]) (h1:(Cd.rnumR m).2.1=0) (h2:1<=Cd.toI (Cd.rnumR m).2.2) (h3:Cd.toI (Cd.rnumR m).2.2<=4096) (h4:(Cd.rnumR m).1.length=32*pieces (Cd.rnumR m).2.2):
  keysL m=(jq (Cd.rnumR m).1 (pieces (Cd.rnumR m).2.2),Cd.toI (Cd.rnumR m).2.2,0):=by unfold keysL;rw [if_neg h,if_pos ⟨h1,h2,h3,h4⟩]
theorem nw {m:List UInt8} (h:m≠[]) (h1:¬ ((Cd.rnumR m).2.1=0/\1<=Cd.toI (Cd.rnumR m).2.2/\Cd.toI (Cd.rnumR m).2.2<=4096/\(Cd.rnumR m).1.length=32*pieces (Cd.rnumR m).2.2)):keysL m=([],0,11):=by unfold keysL;rw [if_neg h,if_neg h1]
theorem yb {u:Nat} (hu:u < 18446744073709551616) (h1:1<=Cd.toI u) (h2:Cd.toI u<=4096):Cd.toI u=u:=by unfold Cd.toI at*;omega
theorem CJ (m:List UInt8):(Cd.rnumR m).2.2 < 18446744073709551616:=Cd.rnumR_lt m
theorem CK (d:List UInt8):me (cutL d):=fun x hx=>by
 obtain ⟨k,_,rfl⟩:=aV.1 hx;have:=ya d k;omega
theorem yc (r:List UInt8) (k:Nat):(jq r k).length=k:=by simp [jq]
theorem Ej (r:List UInt8) (k:Nat):jq r (k+1)=jq r k++[nN r k]:=by simp [jq,List.range_succ]
theorem xV (r:List UInt8) (k:Nat):(bs r).extract (32*k) (32*k+32)=bs (nN r k):=by
 rw [fV];unfold nN;congr 2;omega
theorem AE (r:List UInt8) (a:Nat):(bs r).extract a r.length=bs (r.drop a):=by
 rw [fV];congr 1;rw [az (by rw [ax];omega)]
end Pt
namespace Pt
open Go.RowKit
attribute [local go_sem] dO dL dQ dM
theorem yd {u:Nat} (h:u<=5000):Cd.u64 (u:Int)=u:=by unfold Cd.u64;omega
def iq (w:World) (m:List UInt8) (e:Ending) (w':World):Prop:=∃v,e=.returned (.tuple #[v,.int .i64 (keysL m).2.1,.int .i64 (keysL m).2.2])/\fZ w' w.heap.size v (keysL m).1/\Below w.heap.size w w'
theorem iq.no {w w':World} {m:List UInt8} (h:keysL m=([],0,11)) (hb:Below w.heap.size w w'):iq w m (.returned (.tuple #[.slice none 0 0,.int .i64 0,.int .i64 11])) w':=by
 unfold iq;rw [h];exact ⟨_,rfl,dN.nil_ _ _ _,hb⟩
theorem iq.nil_ {w w':World} (hb:Below w.heap.size w w'):iq w [] (.returned (.tuple #[.slice none 0 0,.int .i64 0,.int .i64 0])) w':=by
 unfold iq;rw [Io];exact ⟨_,rfl,dN.nil_ _ _ _,hb⟩
theorem iq.yes {w w':World} {m r:List UInt8} {u P:Nat} (h:keysL m=(jq r P,(u:Int),0)) {v:Value} (ho:fZ w' w.heap.size v (jq r P)) (hb:Below w.heap.size w w'):iq w m (.returned (.tuple #[v,.int .i64 u,.int .i64 0])) w':=by
 unfold iq;rw [h];exact ⟨_,rfl,ho,hb⟩
theorem qi (m:List UInt8) (hm:m.length<=1000000) (w:World):Calls prog 139 #[.string (bs m)] w (iq w m):=by
 obtain ⟨i0,jd,hz0,hz1,hz2⟩:=info_parts CA;by_cases h0:m=[]
 ·subst h0
  go_enter func139,ntmps139;go_wp2_with fail;go_ret3;exact iq.nil_ (aC _ _)
 have hem:m.isEmpty=false:=by cases m <;> simp_all
 have hr:=Cd.rnum_num m 0;rw [bk] at hr;have hlt:=Cd.numR_lt m 0;have RP:=Cd.num_is m;have hle0:=Cd.numR_le m 0 (aT _);have Dd:=fun (w1:World) (hR:Cd.Rd w1 w.heap.size m 0 0)=>Cd.Num_any w.heap.size m 0 0 w1 hR (aT _) (by omega)
 have hS:Cd.numS m 0 0=Cd.numR m 0:=by unfold Cd.numS;rw [if_pos rfl]
 rw [hS] at Dd;have Yj:=dH (Cd.Read_any m w);generalize nG:Cd.rnumR m=R at*;generalize hN:Cd.numR m 0=N at*;obtain ⟨a,e1,u⟩:=N;obtain ⟨r,e2,u2⟩:=R;dsimp only at hr hlt RP hle0 Dd;obtain ⟨rfl,rfl,TJ⟩:=hr;have BB:=dH Dd;have BC:=dH nG;have HI:=dH jd;have j9:=dH hz0;have gH:=dH hz1;have iH:=dH hz2;have H0:=dH h0;have HIs:=dH RP;have Si:=dH TJ;clear nG hN hS h0 RP TJ jd hz0 hz1 hz2 Dd;by_cases he:e2=0
 ·subst he
  by_cases h1:Cd.toI u2 < 1
  ·have HK:dG (keysL m=([],0,11)):=dH (nw H0.o (by rw [BC.o];exact fun h=>absurd h.2.1 (by show ¬ 1<=Cd.toI u2;omega)))
   generalize Cd.toI u2=t at*;have hd:decide (t < 1)=true:=decide_eq_true h1;clear h1;go_enter func139,ntmps139;go_wp2_with fail;refine Yj.o.mono ?_;rintro e w1 ⟨rfl,hR,hb⟩;have O4:=dH (BB.o w1 hR);have HB:=dH hb;have pS:=hR.lt;clear hb hR;go_wp2_with fail;refine O4.o.mono ?_;rintro e w2 ⟨rfl,tf,hg2⟩;have HE:=dH (Cd.Err_any _ _ _ _ _ tf);have eG:=dH (ef HB.o hg2 (aB _) HB.o.size);clear tf hg2;go_wp2_with fail;refine HE.o.mono ?_;rintro e w3 ⟨rfl,rfl⟩;go_wp2_with fail;go_ret3;exact iq.no HK.o eG.o
  by_cases h2:4096 < Cd.toI u2
  ·have HK:dG (keysL m=([],0,11)):=dH (nw H0.o (by rw [BC.o];exact fun h=>absurd h.2.2.1 (by show ¬ Cd.toI u2<=4096;omega)))
   generalize Cd.toI u2=t at*;have hd:decide (t < 1)=false:=decide_eq_false h1;have hd2:decide (t > 4096)=true:=decide_eq_true h2;clear h1 h2;go_enter func139,ntmps139;go_wp2_with fail;refine Yj.o.mono ?_;rintro e w1 ⟨rfl,hR,hb⟩;have O4:=dH (BB.o w1 hR);have HB:=dH hb;have pS:=hR.lt;clear hb hR;go_wp2_with fail;refine O4.o.mono ?_;rintro e w2 ⟨rfl,tf,hg2⟩;have HE:=dH (Cd.Err_any _ _ _ _ _ tf);have eG:=dH (ef HB.o hg2 (aB _) HB.o.size);clear tf hg2;go_wp2_with fail;refine HE.o.mono ?_;rintro e w3 ⟨rfl,rfl⟩;go_wp2_with fail;go_ret3;exact iq.no HK.o eG.o
  have hu:=yb hlt (by omega) (by omega);rw [hu] at BB h1 h2;have HU:=dH hu;obtain ⟨hi1,hi2,TA⟩:=HIs.o rfl;have Wx:r=m.drop a:=Si.o rfl;have hnl:Cd.numL (u2:Int)=Cd.numU u2:=by unfold Cd.numL;rw [yd (by omega)]
  have hnm:=Cd.num_c (u2:Int);rw [hnl] at hnm;generalize Cd.numU u2=nu at*;have Wy:=dH (fun w=>hnm w (by omega));clear hnm;subst hi2;have hx:=AE m nu.length;rw [<-Wx] at hx;have HX:=dH hx;have hd:decide ((u2:Int) < 1)=false:=decide_eq_false h1;have hd2:decide ((u2:Int) > 4096)=false:=decide_eq_false h2;have acO:nu.length<=m.length:=TA;have hp1:((u2:Int)+256 - 1) / 256=((pieces u2:Nat):Int):=by unfold pieces;omega
  have hp2:((u2:Int)+255) / 256=((pieces u2:Nat):Int):=by unfold pieces;omega
  have RQ:(0:Int)<=u2:=by omega
  have hu3:(u2:Int)<=4096:=by omega
  have wZ:pieces u2<=17:=by unfold pieces;omega
  have Yk:=fun (h4:r.length=32*pieces u2)=>vT H0.o (by rw [BC.o]) (by rw [BC.o];show 1<=Cd.toI u2;rw [hu];omega) (by rw [BC.o];show Cd.toI u2<=4096;rw [hu];omega) (by rw [BC.o];exact h4)
  rw [BC.o] at Yk;dsimp only at Yk;rw [hu] at Yk;have HKo:=dH Yk;clear Yk;have PG:dG (r.length≠32*pieces u2->keysL m=([],0,11)):=dH (fun h=>nw H0.o (by rw [BC.o];exact fun h'=>h h'.2.2.2));clear HIs hi1 TA Wx hnl hu h1 h2 hlt;go_enter func139,ntmps139;go_wp2_with fail;refine Yj.o.mono ?_;rintro e w1 ⟨rfl,hR,hb⟩;have O4:=dH (BB.o w1 hR);have HB:=dH hb;have pS:=hR.lt;clear hb hR;go_wp2_with fail;refine O4.o.mono ?_;rintro e w2 ⟨rfl,tf,hg2⟩;have HE:=dH (Cd.Err_any _ _ _ _ _ tf);have eG:=dH (ef HB.o hg2 (aB _) HB.o.size);clear tf hg2;go_wp2_with fail;refine HE.o.mono ?_;rintro e w3 ⟨rfl,rfl⟩;go_wp2_with fail;refine (Wy.o w2).mono ?_;rintro e w3 ⟨rfl,di⟩;have dw:=dF eG di;clear di;go_upto_region 8 with (fail);generalize pieces u2=P at*;have acP:w.heap.size<=w3.heap.size:=dw.o.size;by_cases hl:r.length=32*P
  case neg=>
   have hq:(((r.length:Nat):Int) != ((P:Nat):Int)*32)=true:=by rw [bne_iff_ne];omega
   have HK:=dH (PG.o hl);clear hl;go_wp2_with fail;go_ret3;exact iq.no HK.o dw.o
  have hq:(((r.length:Nat):Int) != ((P:Nat):Int)*32)=false:=by rw [bne_eq_false_iff_eq];omega
  have HK:=dH (HKo.o hl);have ud:(r.length:Int)=32*(P:Int):=by omega
  have HL:=dH hl;clear hl ud hx PG HKo BB Yj Wy O4 HE Si;go_upto_region 11 with (fail);clear hp1 hp2 hq;go_wp2_with fail;go_loopw [9,10] (fun u i wr=>∃k:Nat,k<=P/\i=.int .i64 (32*k:Nat)/\fZ wr w.heap.size u (jq r k)/\Below w.heap.size w wr) (fun _ i _=>r.length - (intOf i).toNat)
  case atStart=>exact ⟨0,by omega,rfl,dN.nil_ _ _ _,dw.o⟩
  case round=>
   obtain ⟨k,hk,rfl,hO,hb⟩:=hrel;rcases aG k P with hlt|hge
   ·obtain ⟨A2,cc2,rfl⟩:=dN.isSlice hO
    have ud:=HL.o;have hki:32*(k:Int) < (r.length:Int):=by omega
    have hx:=xV r k;have oz:(0:Int)<=32*(k:Int):=by omega
    have hn2:(32*(k:Int)).toNat=32*k:=by omega
    have Un:32*(k:Int)+32<=(r.length:Int):=by omega
    have hn4:(32*(k:Int)+32).toNat=32*k+32:=by omega
    have hcl:(jq r k).length<=17:=by rw [yc];omega
    have K6:=dH (Ej r k);have HO:=dH (dN.alloc hO (.cells #[.string (bs (nN r k))] 9));have HB:=dH (hb.alloc hb.size (.cells #[.string (bs (nN r k))] 9));have hbs:=hb.size;clear hO hb ud;go_wp2_with (at_builtin;refine dZ _ rfl (.tmp 48) (.tmp 54) 99 99 rfl 9 i0 (.string ⟨#[]⟩) 1 underlying99 HI.o j9.o gH.o rfl (by decide) w.heap.size _ (jq r k).length (strs (jq r k)) rfl HO.o (.slice (some ⟨wr.heap.size,0,none⟩) 1 1) rfl 1 [.string (bs (nN r k))] ?c1 ?c3 ?c4 ?c5 ?_)
    case c1=>exact Src.one underlying99 (by simp [go_sem]) rfl
    case c3=>unfold maxLen;omega
    case c4=>rw [iH.o];omega
    case c5=>simp;omega
    intro v' w5 hown hgrow gE;have K0:=dH (fZ.snoc hown);have tW:=dH (lU HB.o (aB _) (by simp;omega) HO.o hgrow);clear hown hgrow gE;go_wp2_with fail;exact ⟨⟨k+1,by omega,by go_num,by rw [K6.o];exact K0.o,tW.o⟩,by simp [intOf];omega⟩
   ·obtain rfl:k=P:=by omega
    have ud:=HL.o;have hki:¬ 32*(k:Int) < (r.length:Int):=by omega
    have HO:=dH hO;have HB:=dH hb;clear hO hb ud;go_wp2_with fail;go_ret3;exact iq.yes HK.o HO.o HB.o
 ·have hne:(e2 != 0)=true:=by simpa using he
  have HK:dG (keysL m=([],0,11)):=dH (nw H0.o (by rw [BC.o];exact fun h=>he h.1));clear he;go_enter func139,ntmps139;go_wp2_with fail;refine Yj.o.mono ?_;rintro e w1 ⟨rfl,hR,hb⟩;have O4:=dH (BB.o w1 hR);have HB:=dH hb;have pS:=hR.lt;clear hb hR;go_wp2_with fail;refine O4.o.mono ?_;rintro e w2 ⟨rfl,tf,hg2⟩;have HE:=dH (Cd.Err_any _ _ _ _ _ tf);have eG:=dH (ef HB.o hg2 (aB _) HB.o.size);clear tf hg2;go_wp2_with fail;refine HE.o.mono ?_;rintro e w3 ⟨rfl,rfl⟩;go_wp2_with fail;go_ret3;exact iq.no HK.o eG.o
end Pt
end Go.Proofs.YtgdaahffmcfhpaaGreatDoor
