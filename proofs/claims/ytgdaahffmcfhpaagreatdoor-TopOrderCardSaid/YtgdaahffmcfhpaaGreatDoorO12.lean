/- Lemmas on the way: Stab View View2 View3 Nd Vm. -/
import Derived.Sort.LotA
import Derived.Test.YtgdaahffmcfhpaaGreatDoorO11
set_option maxRecDepth 100000
set_option maxHeartbeats 8000000
namespace Go.Proofs.YtgdaahffmcfhpaaGreatDoor
open aA
open Tryz
section
open Go.Sort
section
variable {α:Type} [Inhabited α]
def mZ (p:Nat->Bool):Nat->Nat->Nat->Nat
 |0,lo,_=>lo
 |f+1,lo,hi=>if lo < hi then (if p ((lo+hi) / 2) then mZ p f ((lo+hi) / 2+1) hi else mZ p f lo ((lo+hi) / 2)) else lo
theorem od (p:Nat->Bool):∀(f lo hi:Nat),hi - lo < f->lo<=hi->(∀i j,lo<=i->i<=j->j < hi->p j=true->p i=true)->
  lo<=mZ p f lo hi/\mZ p f lo hi<=hi/\(∀i,lo<=i->i < mZ p f lo hi->p i=true)/\(∀i,mZ p f lo hi<=i->i < hi->p i=false)
 |0,lo,hi,h,_,_=>by omega
 |f+1,lo,hi,h,hle,hm=>by
  unfold mZ;by_cases hlt:lo < hi
  ·rw [if_pos hlt]
   cases hp:p ((lo+hi) / 2) with
   |true=>
    simp only [if_true];obtain ⟨h1,h2,h3,h4⟩:=od p f ((lo+hi) / 2+1) hi (by omega) (by omega) (λi j a b c d=>hm i j (by omega) b c d);refine ⟨by omega,h2,λi a b=>?_,h4⟩;rcases aD i ((lo+hi) / 2+1) with hi1|hi1
    ·exact hm i ((lo+hi) / 2) a (by omega) (by omega) hp
    ·exact h3 i hi1 b
   |false=>
    simp only [bp,if_false];obtain ⟨h1,h2,h3,h4⟩:=od p f lo ((lo+hi) / 2) (by omega) (by omega) (λi j a b c d=>hm i j a b (by omega) d);refine ⟨h1,by omega,h3,λi a b=>?_⟩;rcases aD i ((lo+hi) / 2) with hi1|hi1
    ·exact h4 i a hi1
    ·cases hpi:p i with
     |false=>rfl
     |true=>rw [hm ((lo+hi) / 2) i (by omega) hi1 b hpi] at hp;cases hp
  ·rw [if_neg hlt]
   exact ⟨aB _,hle,λi a b=>by omega,λi a b=>by omega⟩
def BQ (d:Array α) (a b:Nat):Nat->Array α
 |0=>d
 |n+1=>swp (BQ d a b n) (a+n) (b+n)
theorem fh (d:Array α) (a b n:Nat):(BQ d a b n).size=d.size:=by
 induction n with
 |zero=>rfl
 |succ n ih=>rw [BQ,size_swp,ih]
theorem vf (d:Array α) (a b:Nat):∀n,a+n<=b->b+n<=d.size->∀k,(BQ d a b n)[k]! =if a<=k/\k < a+n then d[b+(k - a)]! else if b<=k/\k < b+n then d[a+(k - b)]! else d[k]!
 |0,_,_,k=>by
  rw [if_neg (by omega),if_neg (by omega)];rfl
 |n+1,h1,h2,k=>by
  have ih:=vf d a b n (by omega) (by omega);rw [BQ,swp_get _ (by rw [fh];omega) (by rw [fh];omega)];by_cases c1:k=b+n
  ·subst c1
   simp only [if_true];rw [ih,if_neg (by omega),if_neg (by omega),if_neg (by omega),if_pos (by omega)];congr 1;omega
  ·rw [if_neg c1]
   by_cases c2:k=a+n
   ·subst c2
    simp only [if_true];rw [ih,if_neg (by omega),if_neg (by omega),if_pos (by omega)];congr 1;omega
   ·rw [if_neg c2,ih]
    by_cases c3:a<=k/\k < a+n
    ·rw [if_pos c3,if_pos (by omega)]
    ·rw [if_neg c3,if_neg (by omega:¬ (a<=k/\k < a+(n+1)))]
     by_cases c4:b<=k/\k < b+n
     ·rw [if_pos c4,if_pos (by omega)]
     ·rw [if_neg c4,if_neg (by omega)]
theorem rR (d:Array α) (x y a b:Nat):∀n,x<=a->a+n<=b->b+n<=y->y<=d.size->PermIn x y d (BQ d a b n)
 |0,_,_,_,_=>permIn_refl _ _ _
 |n+1,h1,h2,h3,h4=>permIn_trans _ _ _ _ _ (rR d x y a b n h1 (by omega) (by omega) h4) (swp_permIn _ _ _ _ _ (by omega) (by omega) (by omega) (by omega) (by rw [fh];exact h4))
def lz:Nat->Array α->Nat->Nat->Nat->Array α
 |0,d,_,_,_=>d
 |f+1,d,m,i,j=>if i=j then BQ d (m - i) m i else if i > j then lz f (BQ d (m - i) m j) m (i - j) j else lz f (BQ d (m - i) (m+j - i) i) m i (j - i)
def Rot (d d':Array α) (m i j:Nat):Prop:=d'.size=d.size/\∀k,d'[k]! =if m - i<=k/\k < m - i+j then d[m+(k - (m - i))]! else if m - i+j<=k/\k < m+j then d[k - j]! else d[k]!
theorem tC:∀(f:Nat) (d:Array α) (m i j:Nat),i+j<=f->0 < i->0 < j->i<=m->m+j<=d.size->Rot d (lz f d m i j) m i j/\PermIn (m - i) (m+j) d (lz f d m i j)
 |0,d,m,i,j,h,hi,_,_,_=>by omega
 |f+1,d,m,i,j,h,hi,hj,him,hsz=>by
  unfold lz;by_cases c1:i=j
  ·subst c1
   rw [if_pos rfl];refine ⟨⟨fh _ _ _ _,λk=>?_⟩,rR _ _ _ _ _ _ (aB _) (by omega) (aB _) hsz⟩;rw [vf d (m - i) m i (by omega) hsz];by_cases e1:m - i<=k/\k < m - i+i
   ·rw [if_pos e1,if_pos e1]
   ·rw [if_neg e1,if_neg e1]
    by_cases e2:m<=k/\k < m+i
    ·rw [if_pos e2,if_pos (by omega)];congr 1;omega
    ·rw [if_neg e2,if_neg (by omega)]
  ·rw [if_neg c1]
   by_cases c2:i > j
   ·rw [if_pos c2]
    obtain ⟨⟨h1,h2⟩,h3⟩:=tC f (BQ d (m - i) m j) m (i - j) j (by omega) (by omega) hj (by omega) (by rw [fh];exact hsz);have hg:=vf d (m - i) m j (by omega) hsz;refine ⟨⟨by rw [h1,fh],λk=>?_⟩,permIn_trans _ _ _ _ _ (rR d (m - i) (m+j) _ _ _ (aB _) (by omega) (aB _) hsz) (permIn_mono _ _ _ _ _ _ (by omega) (aB _) (by rw [fh];exact hsz) h3)⟩;rw [h2 k];by_cases e1:m - i<=k/\k < m - i+j
    ·rw [if_neg (by omega),if_neg (by omega),hg,if_pos e1,if_pos e1]
    ·rw [if_neg e1]
     by_cases e2:m - i+j<=k/\k < m+j
     ·rw [if_pos e2]
      by_cases e3:m - (i - j)<=k/\k < m - (i - j)+j
      ·rw [if_pos e3,hg,if_neg (by omega),if_pos (by omega)];congr 1;omega
      ·rw [if_neg e3,if_pos (by omega),hg]
       by_cases e4:m<=k - j
       ·omega
       ·rw [if_neg (by omega),if_neg (by omega)]
     ·rw [if_neg e2,if_neg (by omega),if_neg (by omega),hg,if_neg e1,if_neg (by omega)]
   ·rw [if_neg c2]
    obtain ⟨⟨h1,h2⟩,h3⟩:=tC f (BQ d (m - i) (m+j - i) i) m i (j - i) (by omega) hi (by omega) him (by rw [fh];omega);have hg:=vf d (m - i) (m+j - i) i (by omega) (by omega);refine ⟨⟨by rw [h1,fh],λk=>?_⟩,permIn_trans _ _ _ _ _ (rR d (m - i) (m+j) _ _ _ (aB _) (by omega) (by omega) hsz) (permIn_mono _ _ _ _ _ _ (aB _) (by omega) (by rw [fh];exact hsz) h3)⟩;rw [h2 k];by_cases e1:m - i<=k/\k < m - i+j
    ·rw [if_pos e1]
     by_cases e2:k < m - i+(j - i)
     ·rw [if_pos (by omega),hg,if_neg (by omega),if_neg (by omega)]
     ·rw [if_neg (by omega)]
      by_cases e3:m - i+(j - i)<=k/\k < m+(j - i)
      ·rw [if_pos e3,hg,if_pos (by omega)];congr 1;omega
      ·omega
    ·rw [if_neg e1]
     by_cases e2:m - i+j<=k/\k < m+j
     ·rw [if_pos e2,if_neg (by omega),if_neg (by omega),hg,if_neg (by omega),if_pos (by omega)];congr 1;omega
     ·rw [if_neg e2,if_neg (by omega),if_neg (by omega),hg,if_neg (by omega),if_neg (by omega)]
def MP (d:Array α) (a:Nat):Nat->Array α
 |0=>d
 |n+1=>swp (MP d a n) (a+n) (a+n+1)
def MQ (d:Array α) (m:Nat):Nat->Array α
 |0=>d
 |n+1=>swp (MQ d m n) (m - n) (m - n - 1)
theorem rS (d:Array α) (a n:Nat):(MP d a n).size=d.size:=by
 induction n with
 |zero=>rfl
 |succ n ih=>rw [MP,size_swp,ih]
theorem rT (d:Array α) (m n:Nat):(MQ d m n).size=d.size:=by
 induction n with
 |zero=>rfl
 |succ n ih=>rw [MQ,size_swp,ih]
theorem Ii (d:Array α) (a:Nat):∀n,a+n < d.size->∀k,(MP d a n)[k]! =if a<=k/\k < a+n then d[k+1]! else if k=a+n then d[a]! else d[k]!
 |0,_,k=>by
  rw [if_neg (by omega)];by_cases c:k=a+0
  ·rw [if_pos c,c];rfl
  ·rw [if_neg c];rfl
 |n+1,h,k=>by
  have ih:=Ii d a n (by omega);rw [MP,swp_get _ (by rw [rS];omega) (by rw [rS];omega)];by_cases c1:k=a+n+1
  ·subst c1
   simp only [if_true];rw [ih,if_neg (by omega),if_pos rfl,if_neg (by omega),if_pos (by omega)]
  ·rw [if_neg c1]
   by_cases c2:k=a+n
   ·subst c2
    simp only [if_true];rw [ih,if_neg (by omega),if_neg (by omega),if_pos (by omega)]
   ·rw [if_neg c2,ih]
    by_cases c3:a<=k/\k < a+n
    ·rw [if_pos c3,if_pos (by omega)]
    ·rw [if_neg c3,if_neg c2,if_neg (by omega),if_neg (by omega)]
theorem Ij (d:Array α) (m:Nat) (hm:m < d.size):∀n,n<=m->∀k,(MQ d m n)[k]! =if m - n < k/\k<=m then d[k - 1]! else if k=m - n then d[m]! else d[k]!
 |0,_,k=>by
  rw [if_neg (by omega)];by_cases c:k=m - 0
  ·rw [if_pos c,c];rfl
  ·rw [if_neg c];rfl
 |n+1,h,k=>by
  have ih:=Ij d m hm n (by omega);rw [MQ,swp_get _ (by rw [rT];omega) (by rw [rT];omega)];by_cases c1:k=m - n - 1
  ·subst c1
   simp only [if_true];rw [ih,if_neg (by omega),if_pos rfl,if_neg (by omega),if_pos (by omega)]
  ·rw [if_neg c1]
   by_cases c2:k=m - n
   ·subst c2
    simp only [if_true];rw [ih,if_neg (by omega),if_neg (by omega),if_pos (by omega)]
   ·rw [if_neg c2,ih]
    by_cases c3:m - n < k/\k<=m
    ·rw [if_pos c3,if_pos (by omega)]
    ·rw [if_neg c3,if_neg c2,if_neg (by omega),if_neg (by omega)]
theorem DN (d:Array α) (x y a:Nat):∀n,x<=a->a+n < y->y<=d.size->PermIn x y d (MP d a n)
 |0,_,_,_=>permIn_refl _ _ _
 |n+1,h1,h2,h3=>permIn_trans _ _ _ _ _ (DN d x y a n h1 (by omega) h3) (swp_permIn _ _ _ _ _ (by omega) (by omega) (by omega) (by omega) (by rw [rS];exact h3))
theorem DO (d:Array α) (x y m:Nat):∀n,x<=m - n->n<=m->m < y->y<=d.size->PermIn x y d (MQ d m n)
 |0,_,_,_,_=>permIn_refl _ _ _
 |n+1,h1,h2,h3,h4=>permIn_trans _ _ _ _ _ (DO d x y m n (by omega) (by omega) h3 h4) (swp_permIn _ _ _ _ _ (by omega) (by omega) (by omega) (by omega) (by rw [rT];exact h4))
variable (lt:α->α->Bool)
def lB (d:Array α) (a m b:Nat):Nat:=mZ (λc=>!lt d[(a+b) / 2+m - 1 - c]! d[c]!) (b+1) (if m > (a+b) / 2 then (a+b) / 2+m - b else a) (if m > (a+b) / 2 then (a+b) / 2 else m)
def kH:Nat->Array α->Nat->Nat->Nat->Array α
 |0,d,_,_,_=>d
 |f+1,d,a,m,b=>
  if m - a=1 then MP d a (mZ (λh=>lt d[h]! d[a]!) (b+1) m b - 1 - a)
  else if b - m=1 then MQ d m (m - mZ (λh=>!lt d[m]! d[h]!) (b+1) a m)
  else
   let s:=lB lt d a m b
   let e:=(a+b) / 2+m - s
   let d1:=if s < m/\m < e then lz (b+1) d m (m - s) (e - m) else d
   let d2:=if a < s/\s < (a+b) / 2 then kH f d1 a s ((a+b) / 2) else d1
   if (a+b) / 2 < e/\e < b then kH f d2 ((a+b) / 2) e b else d2
omit [Inhabited α] in
theorem lt_asymm (hS:SWO lt) {x y:α} (h:lt x y=true):lt y x=false:=by
 cases hc:lt y x with
 |false=>rfl
 |true=>have:=hS.trans _ _ _ h hc;rw [hS.irrefl] at this;cases this
variable {lt}
variable {d:Array α}
theorem gO(hS:SWO lt) {a b i j:Nat} (h:SortedIn lt a b d) (h1:a<=i) (h2:i<=j) (h3:j < b):lt d[j]! d[i]! =false:=by
 rcases aD i j with hlt|hge
 ·exact h i j h1 hlt h3
 ·obtain rfl:i=j:=by omega
  exact hS.irrefl _
theorem NL(hS:SWO lt) {a m b:Nat} (h1:m - a=1) (hmb:m < b) (hb:b<=d.size) (hs2:SortedIn lt m b d):
  PermIn a b d (MP d a (mZ (λh=>lt d[h]! d[a]!) (b+1) m b - 1 - a))/\SortedIn lt a b (MP d a (mZ (λh=>lt d[h]! d[a]!) (b+1) m b - 1 - a)):=by
 obtain ⟨q1,q2,q3,q4⟩:=od (λh=>lt d[h]! d[a]!) (b+1) m b (by omega) (by omega) (λi j c1 c2 c3 c4=>by
  cases hc:lt d[i]! d[a]! with
  |true=>rfl
  |false=>have:=hS.ntrans _ _ _ (gO hS hs2 c1 c2 c3) hc;rw [this] at c4;cases c4)
 generalize mZ (λh=>lt d[h]! d[a]!) (b+1) m b=i at*;refine ⟨DN d a b a _ (aB _) (by omega) hb,λx y hx hxy hy=>?_⟩;have hg:=Ii d a (i - 1 - a) (by omega);rw [hg y,hg x];have ei:a+(i - 1 - a)=i - 1:=by omega
 rw [ei];by_cases c1:a<=y/\y < i - 1
 ·rw [if_pos c1,if_pos (by omega)]
  exact hs2 _ _ (by omega) (by omega) (by omega)
 ·rw [if_neg c1]
  by_cases c2:y=i - 1
  ·rw [if_pos c2,if_pos (by omega)]
   exact lt_asymm lt hS (q3 (x+1) (by omega) (by omega))
  ·rw [if_neg c2]
   by_cases c3:a<=x/\x < i - 1
   ·rw [if_pos c3]
    exact hs2 _ _ (by omega) (by omega) hy
   ·rw [if_neg c3]
    by_cases c4:x=i - 1
    ·rw [if_pos c4]
     exact q4 y (by omega) hy
    ·rw [if_neg c4]
     exact hs2 _ _ (by omega) hxy hy
theorem KD(hS:SWO lt) {a m b:Nat} (h1:b - m=1) (ham:a < m) (hb:b<=d.size) (hs1:SortedIn lt a m d):
  PermIn a b d (MQ d m (m - mZ (λh=>!lt d[m]! d[h]!) (b+1) a m))/\SortedIn lt a b (MQ d m (m - mZ (λh=>!lt d[m]! d[h]!) (b+1) a m)):=by
 obtain ⟨q1,q2,q3,q4⟩:=od (λh=>!lt d[m]! d[h]!) (b+1) a m (by omega) (by omega) (λi j c1 c2 c3 c4=>by
  simp only [Bool.not_eq_true'] at c4 ⊢;exact hS.ntrans _ _ _ c4 (gO hS hs1 c1 c2 c3))
 generalize mZ (λh=>!lt d[m]! d[h]!) (b+1) a m=i at*;refine ⟨DO d a b m _ (by omega) (by omega) (by omega) hb,λx y hx hxy hy=>?_⟩;have hg:=Ij d m (by omega) (m - i) (by omega);have ei:m - (m - i)=i:=by omega
 rw [hg y,hg x,ei];by_cases c1:i < y/\y<=m
 ·rw [if_pos c1]
  by_cases c2:i < x/\x<=m
  ·rw [if_pos c2]
   exact hs1 _ _ (by omega) (by omega) (by omega)
  ·rw [if_neg c2]
   by_cases c3:x=i
   ·rw [if_pos c3]
    have:=q4 (y - 1) (by omega) (by omega);simp only [Bool.not_eq_false'] at this;exact lt_asymm lt hS this
   ·rw [if_neg c3]
    exact gO hS hs1 hx (by omega) (by omega)
 ·rw [if_neg c1]
  by_cases c3:y=i
  ·rw [if_pos c3,if_neg (by omega),if_neg (by omega)]
   have:=q3 x hx (by omega);simp only [Bool.not_eq_true'] at this;exact this
  ·rw [if_neg c3,if_neg (by omega),if_neg (by omega)]
   exact hs1 _ _ hx hxy (by omega)
theorem KE(hS:SWO lt) {a m b:Nat} (ham:a < m) (hmb:m < b) (hs1:SortedIn lt a m d) (hs2:SortedIn lt m b d):
  a<=lB lt d a m b/\lB lt d a m b<=m/\lB lt d a m b<=(a+b) / 2/\(a+b) / 2+m<=b+lB lt d a m b/\
  (∀x y,a<=x->x < lB lt d a m b->(a+b) / 2+m - lB lt d a m b<=y->y < b->lt d[y]! d[x]! =false)/\
  (∀x y,m<=x->x < (a+b) / 2+m - lB lt d a m b->lB lt d a m b<=y->y < m->lt d[y]! d[x]! =false):=by
 have hM1:a<=(a+b) / 2:=by omega
 have hM2:(a+b) / 2 < b:=by omega
 have h2M:(a+b) / 2+(a+b) / 2<=a+b:=by omega
 have agq:a+b<=(a+b) / 2+(a+b) / 2+1:=by omega
 unfold lB;generalize (a+b) / 2=M at*;have key:∀lo hi,a<=lo->lo<=hi->hi<=m->hi<=M->M+m<=b+lo->(lo=a\/M+m=b+lo)->(hi=m\/hi=M)->
   let s:=mZ (λc=>!lt d[M+m - 1 - c]! d[c]!) (b+1) lo hi
   a<=s/\s<=m/\s<=M/\M+m<=b+s/\(∀x y,a<=x->x < s->M+m - s<=y->y < b->lt d[y]! d[x]! =false)/\(∀x y,m<=x->x < M+m - s->s<=y->y < m->lt d[y]! d[x]! =false):=by
  intro lo hi k1 k2 k3 k4 k5 k6 k7;obtain ⟨q1,q2,q3,q4⟩:=od (λc=>!lt d[M+m - 1 - c]! d[c]!) (b+1) lo hi (by omega) k2 (λi j c1 c2 c3 c4=>by
   simp only [Bool.not_eq_true'] at c4 ⊢;have e1:=gO hS hs1 (i:=i) (j:=j) (by omega) c2 (by omega);have e2:=gO hS hs2 (i:=M+m - 1 - j) (j:=M+m - 1 - i) (by omega) (by omega) (by omega);exact hS.ntrans _ _ _ (hS.ntrans _ _ _ e2 c4) e1)
  generalize mZ (λc=>!lt d[M+m - 1 - c]! d[c]!) (b+1) lo hi=s at*;refine ⟨by omega,by omega,by omega,by omega,λx y hx hxs hy hyb=>?_,λx y hx hxe hy hym=>?_⟩
  ·have hlo:lo < s:=by omega
   have hp:=q3 (s - 1) (by omega) (by omega);simp only [Bool.not_eq_true'] at hp;have e0:M+m - 1 - (s - 1)=M+m - s:=by omega
   rw [e0] at hp;exact hS.ntrans _ _ _ (hS.ntrans _ _ _ (gO hS hs2 (i:=M+m - s) (j:=y) (by omega) hy hyb) hp) (gO hS hs1 hx (by omega) (by omega))
  ·have hhi:s < hi:=by omega
   have hp:=q4 s (aB _) hhi;simp only [Bool.not_eq_false'] at hp;have e1:=gO hS hs2 (i:=x) (j:=M+m - 1 - s) hx (by omega) (by omega);have e2:=gO hS hs1 (i:=s) (j:=y) (by omega) hy hym;cases hc:lt d[y]! d[x]! with
   |false=>rfl
   |true=>
    have e3:lt d[s]! d[M+m - 1 - s]! =false:=lt_asymm lt hS hp;cases hd:lt d[y]! d[M+m - 1 - s]! with
    |false=>rw [hS.ntrans _ _ _ hd e1] at hc;cases hc
    |true=>
     cases he:lt d[s]! d[y]! with
     |true=>rw [hS.trans _ _ _ he hd] at e3;cases e3
     |false=>
      have:=hS.ntrans _ _ _ (lt_asymm lt hS hd) e2;rw [hp] at this;cases this
 by_cases c:m > M
 ·rw [if_pos c,if_pos c]
  exact key (M+m - b) M (by omega) (by omega) (by omega) (aB _) (by omega) (.inr (by omega)) (.inr rfl)
 ·rw [if_neg c,if_neg c]
  exact key a m (aB _) (by omega) (aB _) (by omega) (by omega) (.inl rfl) (.inl rfl)
theorem pR (hS:SWO lt):∀(f:Nat) (d:Array α) (a m b:Nat),b - a<=f->a < m->m < b->b<=d.size->SortedIn lt a m d->SortedIn lt m b d->
  PermIn a b d (kH lt f d a m b)/\SortedIn lt a b (kH lt f d a m b)
 |0,d,a,m,b,h,h1,h2,_,_,_=>by omega
 |f+1,d,a,m,b,h,ham,hmb,hb,hs1,hs2=>by
  unfold kH;by_cases c1:m - a=1
  ·rw [if_pos c1]
   exact NL hS c1 hmb hb hs2
  rw [if_neg c1];by_cases c2:b - m=1
  ·rw [if_pos c2]
   exact KD hS c2 ham hb hs1
  rw [if_neg c2];obtain ⟨p1,p2,p3,p4,p5,p6⟩:=KE hS ham hmb hs1 hs2;have hM1:a < (a+b) / 2:=by omega
  have hM2:(a+b) / 2 < b:=by omega
  simp only;generalize lB lt d a m b=s at*;generalize (a+b) / 2=M at*;obtain ⟨e,he⟩:=dG (M+m - s);rw [<-he] at p5 p6 ⊢;have uf:∃d1,d1=(if s < m/\m < e then lz (b+1) d m (m - s) (e - m) else d):=⟨_,rfl⟩;obtain ⟨d1,uf⟩:=uf;rw [<-uf];have QE:PermIn a b d d1/\∀k,d1[k]! =if s<=k/\k < M then d[m+(k - s)]! else if M<=k/\k < e then d[k - (e - m)]! else d[k]!:=by
   rw [uf];by_cases c:s < m/\m < e
   ·rw [if_pos c]
    obtain ⟨⟨r1,r2⟩,r3⟩:=tC (b+1) d m (m - s) (e - m) (by omega) (by omega) (by omega) (by omega) (by omega);refine ⟨permIn_mono _ _ _ _ _ _ (by omega) (by omega) hb r3,λk=>?_⟩;rw [r2 k];have e1:m - (m - s)=s:=by omega
    have e2:s+(e - m)=M:=by omega
    have e3:m+(e - m)=e:=by omega
    rw [e1,e2,e3]
   ·rw [if_neg c]
    refine ⟨permIn_refl _ _ _,λk=>?_⟩;by_cases k1:s<=k/\k < M
    ·rw [if_pos k1];congr 1;omega
    ·rw [if_neg k1]
     by_cases k2:M<=k/\k < e
     ·rw [if_pos k2];congr 1;omega
     ·rw [if_neg k2]
  obtain ⟨hp1,hg1⟩:=QE;have hz1:d1.size=d.size:=hp1.1;have t1:SortedIn lt a s d1:=λx y hx hxy hy=>by rw [hg1,hg1,if_neg (by omega),if_neg (by omega),if_neg (by omega),if_neg (by omega)];exact hs1 x y hx hxy (by omega)
  have t2:SortedIn lt s M d1:=λx y hx hxy hy=>by rw [hg1,hg1,if_pos (by omega),if_pos (by omega)];exact hs2 _ _ (by omega) (by omega) (by omega)
  have t3:SortedIn lt M e d1:=λx y hx hxy hy=>by rw [hg1,hg1,if_neg (by omega),if_pos (by omega),if_neg (by omega),if_pos (by omega)];exact hs1 _ _ (by omega) (by omega) (by omega)
  have t4:SortedIn lt e b d1:=λx y hx hxy hy=>by rw [hg1,hg1,if_neg (by omega),if_neg (by omega),if_neg (by omega),if_neg (by omega)];exact hs2 x y (by omega) hxy hy
  have abv:∀x y,a<=x->x < M->M<=y->y < b->lt d1[y]! d1[x]! =false:=λx y hx hxM hyM hy=>by
   rw [hg1 y,hg1 x];by_cases k1:s<=x/\x < M
   ·rw [if_pos k1,if_neg (by omega)]
    by_cases k2:M<=y/\y < e
    ·rw [if_pos k2];exact p6 _ _ (by omega) (by omega) (by omega) (by omega)
    ·rw [if_neg k2];exact gO hS hs2 (by omega) (by omega) hy
   ·rw [if_neg k1,if_neg (show ¬ (s<=y/\y < M) by omega),if_neg (show ¬ (M<=x/\x < e) by omega)]
    by_cases k2:M<=y/\y < e
    ·rw [if_pos k2];exact gO hS hs1 hx (by omega) (by omega)
    ·rw [if_neg k2];exact p5 _ _ hx (by omega) (by omega) hy
  clear hg1 p5 p6 uf;obtain ⟨d2,hd2⟩:=dG ((if a < s/\s < M then kH lt f d1 a s M else d1));rw [<-hd2];have h2:PermIn a M d1 d2/\SortedIn lt a M d2:=by
   rw [hd2];by_cases c:a < s/\s < M
   ·rw [if_pos c]
    exact pR hS f d1 a s M (by omega) c.1 c.2 (by omega) t1 t2
   ·rw [if_neg c]
    refine ⟨permIn_refl _ _ _,?_⟩;by_cases k1:s=a
    ·subst k1;exact t2
    ·obtain rfl:s=M:=by omega
     exact t1
  obtain ⟨h2p,h2s⟩:=h2;have hz2:d2.size=d1.size:=h2p.1;have Es:∀k,M<=k->d2[k]! =d1[k]!:=λk hk=>h2p.2.1 k (.inr hk)
  have t3':SortedIn lt M e d2:=λx y hx hxy hy=>by rw [Es x hx,Es y (by omega)];exact t3 x y hx hxy hy
  have t4':SortedIn lt e b d2:=λx y hx hxy hy=>by rw [Es x (by omega),Es y (by omega)];exact t4 x y hx hxy hy
  obtain ⟨d3,M0⟩:=dG ((if M < e/\e < b then kH lt f d2 M e b else d2));rw [<-M0];have h3:PermIn M b d2 d3/\SortedIn lt M b d3:=by
   rw [M0];by_cases c:M < e/\e < b
   ·rw [if_pos c]
    exact pR hS f d2 M e b (by omega) c.1 c.2 (by omega) t3' t4'
   ·rw [if_neg c]
    refine ⟨permIn_refl _ _ _,?_⟩;by_cases k1:e=b
    ·subst k1;exact t3'
    ·obtain rfl:e=M:=by omega
     exact t4'
  obtain ⟨h3p,h3s⟩:=h3;refine ⟨permIn_trans _ _ _ _ _ hp1 (permIn_trans _ _ _ _ _ (permIn_mono _ _ _ _ _ _ (aB _) (by omega) (by omega) h2p) (permIn_mono _ _ _ _ _ _ (by omega) (aB _) (by omega) h3p)),λx y hx hxy hy=>?_⟩;rcases aD y M with k|k
  ·rw [h3p.2.1 x (.inl (by omega)),h3p.2.1 y (.inl k)]
   exact h2s x y hx hxy k
  ·rcases aD x M with k2|k2
   ·rw [h3p.2.1 x (.inl k2)]
    refine permIn_all _ _ M b (λu=>lt u d2[x]! =false) (by omega) h3p (λi hi hib=>?_) y k hy;rw [Es i hi];exact permIn_all _ _ a M (λv=>lt d1[i]! v=false) (by omega) h2p (λj hj hjM=>abv j i hj hjM hi hib) x hx k2
   ·exact h3s x y k2 hxy hy
variable (lt)
def kN:Nat->Array α->Nat->Nat->Array α
 |0,d,_,_=>d
 |f+1,d,a,n=>if a+20<=n then kN f (insertionSort lt d a (a+20)) (a+20) n else insertionSort lt d a n
def lC:Nat->Array α->Nat->Nat->Nat->Array α
 |0,d,_,_,_=>d
 |f+1,d,a,k,n=>if a+2*k<=n then lC f (kH lt (n+1) d a (a+k) (a+2*k)) (a+2*k) k n else if a+k < n then kH lt (n+1) d a (a+k) n else d
def jZ:Nat->Array α->Nat->Nat->Array α
 |0,d,_,_=>d
 |f+1,d,k,n=>if k < n then jZ f (lC lt (n+1) d 0 k n) (2*k) n else d
def qI (d:Array α):Array α:=jZ lt (d.size+1) (kN lt (d.size+1) d 0 d.size) 20 d.size
variable {lt}
def Ft (lt:α->α->Bool) (d:Array α) (k n:Nat) (P:Nat->Prop):Prop:=∀q,P q->SortedIn lt (q*k) (min ((q+1)*k) n) d
theorem jx{d':Array α} {a b:Nat} (h:SortedIn lt a b d) (hs:∀i,a<=i->i < b->d'[i]! =d[i]!):SortedIn lt a b d':=λx y hx hxy hy=>by
 rw [hs x hx (by omega),hs y (by omega) hy];exact h x y hx hxy hy
theorem wX (hS:SWO lt) (n:Nat):∀(f:Nat) (d:Array α) (q:Nat),n < f+q*20->q*20<=n->n<=d.size->Ft lt d 20 n (λp=>p < q)->
  PermIn 0 n d (kN lt f d (q*20) n)/\Ft lt (kN lt f d (q*20) n) 20 n (λ_=>True)
 |0,d,q,h,hq,_,_=>by omega
 |f+1,d,q,h,hq,hn,hB=>by
  unfold kN;by_cases c:q*20+20<=n
  ·rw [if_pos c]
   obtain ⟨h1,h2⟩:=insertionSort_holds (lt:=lt) hS d (q*20) (q*20+20) (by omega) (by omega);have e:q*20+20=(q+1)*20:=by omega
   have VF:Ft lt (insertionSort lt d (q*20) (q*20+20)) 20 n (λp=>p < q+1):=λp hp=>by
    rcases aD p q with k|k
    ·exact jx (hB p k) (λi hi hi2=>h1.2.1 i (.inl (by omega)))
    ·obtain rfl:p=q:=by omega
     rw [Nat.min_eq_left (by omega),<-e];exact h2
   obtain ⟨r1,r2⟩:=wX hS n f _ (q+1) (by omega) (by omega) (by rw [h1.1];exact hn) VF;rw [<-e] at r1 r2;exact ⟨permIn_trans _ _ _ _ _ (permIn_mono _ _ _ _ _ _ (by omega) c hn h1) r1,r2⟩
  ·rw [if_neg c]
   obtain ⟨h1,h2⟩:=insertionSort_holds (lt:=lt) hS d (q*20) n (by omega) hn;refine ⟨permIn_mono _ _ _ _ _ _ (by omega) (aB _) hn h1,λp _=>?_⟩;rcases aD p q with k|k
   ·exact jx (hB p k) (λi hi hi2=>h1.2.1 i (.inl (by omega)))
   ·rcases aD q p with k2|k2
    ·intro x y hx hxy hy;omega
    ·obtain rfl:p=q:=by omega
     rw [cZ (by omega)];exact h2
theorem wY (hS:SWO lt) (n k:Nat) (hk:0 < k):∀(f:Nat) (d:Array α) (q:Nat),n < f+q*(2*k)->n<=d.size->Ft lt d (2*k) n (λp=>p < q)->(∀p,2*q<=p->SortedIn lt (p*k) (min ((p+1)*k) n) d)->
  q*(2*k)<=n->
  PermIn 0 n d (lC lt f d (q*(2*k)) k n)/\Ft lt (lC lt f d (q*(2*k)) k n) (2*k) n (λ_=>True)
 |0,d,q,h,_,_,_,hq=>by omega
 |f+1,d,q,h,hn,hB,hR,hq=>by
  unfold lC;have e0:(q+1)*(2*k)=q*(2*k)+2*k:=by rw [Nat.add_mul];omega
  have e1:2*q*k=q*(2*k):=by rw [Nat.mul_comm 2 q,Nat.mul_assoc]
  have e2:(2*q+1)*k=q*(2*k)+k:=by rw [Nat.add_mul,e1];omega
  have e3:(2*q+1+1)*k=q*(2*k)+2*k:=by rw [Nat.add_mul,e2];omega
  have far:∀p,p < q->(p+1)*(2*k)<=q*(2*k):=λp hp=>bA _ hp
  by_cases c:q*(2*k)+2*k<=n
  ·rw [if_pos c]
   have s1:=hR (2*q) (aB _);have s2:=hR (2*q+1) (by omega);rw [e1,e2,Nat.min_eq_left (by omega)] at s1;rw [e2,e3,Nat.min_eq_left (by omega)] at s2;obtain ⟨h1,h2⟩:=pR hS (n+1) d (q*(2*k)) (q*(2*k)+k) (q*(2*k)+2*k) (by omega) (by omega) (by omega) (by omega) s1 s2;have VF:Ft lt (kH lt (n+1) d (q*(2*k)) (q*(2*k)+k) (q*(2*k)+2*k)) (2*k) n (λp=>p < q+1):=λp hp=>by
    rcases aD p q with k'|k'
    ·have:=far p k'
     exact jx (hB p k') (λi hi hi2=>h1.2.1 i (.inl (by omega)))
    ·obtain rfl:p=q:=by omega
     rw [e0,Nat.min_eq_left c];exact h2
   obtain ⟨r1,r2⟩:=wY hS n k hk f _ (q+1) (by rw [e0];omega) (by rw [h1.1];exact hn) VF (λp hp=>jx (hR p (by omega)) (λi hi hi2=>h1.2.1 i (.inr (by
    have:(2*q+1+1)*k<=p*k:=bA _ (by omega);omega)))) (by omega)
   rw [e0] at r1 r2;exact ⟨permIn_trans _ _ _ _ _ (permIn_mono _ _ _ _ _ _ (by omega) c hn h1) r1,r2⟩
  ·rw [if_neg c]
   by_cases c2:q*(2*k)+k < n
   ·rw [if_pos c2]
    have s1:=hR (2*q) (aB _);have s2:=hR (2*q+1) (by omega);rw [e1,e2,Nat.min_eq_left (by omega)] at s1;rw [e2,e3,cZ (by omega)] at s2;obtain ⟨h1,h2⟩:=pR hS (n+1) d (q*(2*k)) (q*(2*k)+k) n (by omega) (by omega) c2 hn s1 s2;refine ⟨permIn_mono _ _ _ _ _ _ (by omega) (aB _) hn h1,λp _=>?_⟩;rcases aD p q with k'|k'
    ·have:=far p k'
     exact jx (hB p k') (λi hi hi2=>h1.2.1 i (.inl (by omega)))
    ·rcases aD q p with k2|k2
     ·have:(q+1)*(2*k)<=p*(2*k):=bA _ k2
      intro x y hx hxy hy;omega
     ·obtain rfl:p=q:=by omega
      rw [cZ (by omega)];exact h2
   ·rw [if_neg c2]
    refine ⟨permIn_refl _ _ _,λp _=>?_⟩;rcases aD p q with k'|k'
    ·exact hB p k'
    ·rcases aD q p with k2|k2
     ·have:(q+1)*(2*k)<=p*(2*k):=bA _ k2
      intro x y hx hxy hy;omega
     ·obtain rfl:p=q:=by omega
      have s1:=hR (2*p) (aB _);rw [e1,e2,cZ (by omega)] at s1;rw [cZ (by omega)];exact s1
theorem wZ (hS:SWO lt) (n:Nat):∀(f:Nat) (d:Array α) (k:Nat),n < f+k->0 < k->n<=d.size->Ft lt d k n (λ_=>True)->
  PermIn 0 n d (jZ lt f d k n)/\SortedIn lt 0 n (jZ lt f d k n)
 |0,d,k,h,hk,_,hB=>by
  unfold jZ;refine ⟨permIn_refl _ _ _,?_⟩;have:=hB 0 trivial;rw [Nat.zero_mul,cZ (by omega)] at this;exact this
 |f+1,d,k,h,hk,hn,hB=>by
  unfold jZ;by_cases c:k < n
  ·rw [if_pos c]
   obtain ⟨h1,h2⟩:=wY hS n k hk (n+1) d 0 (by omega) hn (λp hp=>by omega) (λp _=>hB p trivial) (by omega);rw [Nat.zero_mul] at h1 h2;obtain ⟨r1,r2⟩:=wZ hS n f _ (2*k) (by omega) (by omega) (by rw [h1.1];exact hn) h2;exact ⟨permIn_trans _ _ _ _ _ h1 r1,r2⟩
  ·rw [if_neg c]
   refine ⟨permIn_refl _ _ _,?_⟩;have:=hB 0 trivial;rw [Nat.zero_mul,cZ (by omega)] at this;exact this
theorem zz (hS:SWO lt) (d:Array α):PermIn 0 d.size d (qI lt d)/\SortedIn lt 0 d.size (qI lt d):=by
 unfold qI;obtain ⟨h1,h2⟩:=wX hS d.size (d.size+1) d 0 (by omega) (by omega) (aB _) (λp hp=>by omega);rw [Nat.zero_mul] at h1 h2;obtain ⟨r1,r2⟩:=wZ hS d.size (d.size+1) _ 20 (by omega) (by omega) (by rw [h1.1];exact aB _) h2;exact ⟨permIn_trans _ _ _ _ _ h1 r1,r2⟩
end
end
section
structure It where
 path:By
 id:St
 dir:Bool
 mf:By
deriving Inhabited
def jf (xs:List Nd) (s:St):List By:=rQ ((fo s xs).map Nd.nm)
def jy (xs:List Nd) (s:St):List (Nd×By):=(fo s xs).zip (jf xs s)
def kI (ahead:By) (q:Nd×By):It:=⟨ahead++q.2,q.1.id,q.1.dir,q.1.mf⟩
structure Vw where
 met:List St
 o:List It
def DP (ahead:By):List (Nd×By)->Vw->Option Vw
 | [],v=>some v
 |q :: r,v=>if q.1.id∈v.met then none else DP ahead r ⟨v.met++[q.1.id],v.o++[kI ahead q]⟩
def lD (f:St->By->Vw->Option Vw) (ahead:By):List (Nd×By)->Vw->Option Vw
 | [],v=>some v
 |q :: r,v=>if q.1.dir then (f q.1.id (ahead++q.2++[47]) v).bind (lD f ahead r) else lD f ahead r v
def jL (xs:List Nd):Nat->St->By->Vw->Option Vw
 |0,s,_,v=>if fo s xs=[] then some v else none
 |k+1,s,ahead,v=>(DP ahead (jy xs s) v).bind (lD (jL xs k) ahead (jy xs s))
def rU (xs:List Nd):Option (List It):=(jL xs 16 (0,0) [] ⟨[],[]⟩).map Vw.o
def fH (ps:List By):By:=ps.flatMap (· ++[47])
theorem rV (ps:List By) (g:By):fH (ps++[g])=fH ps++g++[47]:=by simp [fH]
inductive Pos (xs:List Nd):St->List By->Prop
 |root:Pos xs (0,0) []
 |sub {s:St} {ps:List By} {n:Nd} {g:By}:Pos xs s ps->(n,g)∈jy xs s->n.dir=true->Pos xs n.id (ps++[g])
def NM (xs:List Nd) (out:List It) (it:It):Prop:=
 ∃s ps n g,Pos xs s ps/\(n,g)∈jy xs s/\it=kI (fH ps) (n,g)/\ps.length < 16/\(s=(0,0)/\ps=[]\/∃u∈out,u.id=s/\u.dir=true/\u.path++[47]=fH ps)
variable {xs:List Nd}
theorem NM.mono {out out':List It} {it:It} (h:NM xs out it) (hs:∀x∈out,x∈out'):NM xs out' it:=by
 obtain ⟨s,ps,n,g,h1,h2,h3,h4,h5⟩:=h;refine ⟨s,ps,n,g,h1,h2,h3,h4,?_⟩;rcases h5 with h5| ⟨u,hu,h6⟩
 ·exact .inl h5
 ·exact .inr ⟨u,hs u hu,h6⟩
structure BR (xs:List Nd) (v:Vw):Prop where
 met:∀i,i∈v.met↔∃it∈v.o,it.id=i
 nodup:(v.o.map It.id).Nodup
 ok:∀it∈v.o,NM xs v.o it
def A0 (out:List It) (s:St) (ps:List By):Prop:=s=(0,0)/\ps=[]\/∃u∈out,u.id=s/\u.dir=true/\u.path++[47]=fH ps
variable {s:St} {ps:List By}
theorem A0.mono{out out':List It} (h:A0 out s ps) (hs:∀x∈out,x∈out'):A0 out' s ps:=by
 rcases h with h| ⟨u,hu,h6⟩
 ·exact .inl h
 ·exact .inr ⟨u,hs u hu,h6⟩
theorem BT {xs:List Nd} {s:St} {ps:List By} (hP:Pos xs s ps) (hl:ps.length < 16):∀(qs:List (Nd×By)) (v v':Vw),(∀q∈qs,q∈jy xs s)->A0 v.o s ps->BR xs v->DP (fH ps) qs v=some v'->
  BR xs v'/\(∀x∈v.o,x∈v'.o)/\∀q∈qs,kI (fH ps) q∈v'.o
 | [],v,v',_,_,hv,h=>by
  simp only [DP,Option.some.injEq] at h;subst h;exact ⟨hv,λ_ hx=>hx,λq hq=>by cases hq⟩
 |q :: r,v,v',hq,hh,hv,h=>by
  rw [DP] at h;by_cases c:q.1.id∈v.met
  ·rw [if_pos c] at h;cases h
  ·rw [if_neg c] at h
   have hsub:∀x∈v.o,x∈v.o++[kI (fH ps) q]:=λx hx=>cW _ hx
   have CR:BR xs ⟨v.met++[q.1.id],v.o++[kI (fH ps) q]⟩:=by
    refine ⟨λi=>?_,?_,λit hit=>?_⟩
    ·simp only [aQ,aq,bH,or_false]
     rw [hv.met i];constructor
     ·rintro (⟨it,h1,h2⟩|rfl)
      ·exact ⟨it,.inl h1,h2⟩
      ·exact ⟨_,.inr rfl,rfl⟩
     ·rintro ⟨it,h1|rfl,h2⟩
      ·exact .inl ⟨it,h1,h2⟩
      ·exact .inr h2.symm
    ·simp only [bQ,bB,List.map_nil]
     rw [cE];refine ⟨hv.nodup,by simp,λa ha b hb e=>?_⟩;rw [aW] at hb;obtain ⟨it,h1,h2⟩:=aU.1 ha;exact c ((hv.met _).2 ⟨it,h1,by rw [h2,e,hb];rfl⟩)
    ·rcases aq.1 hit with h1|h1
     ·exact (hv.ok it h1).mono hsub
     ·rw [aW] at h1
      exact ⟨s,ps,q.1,q.2,hP,hq q (by simp),h1,hl,hh.mono hsub⟩
   obtain ⟨r1,r2,r3⟩:=BT hP hl r _ v' (λx hx=>hq x (by simp [hx])) (hh.mono hsub) CR h;refine ⟨r1,λx hx=>r2 x (hsub x hx),λx hx=>?_⟩;rcases aQ.1 hx with rfl|hx
   ·exact r2 _ (by simp)
   ·exact r3 x hx
theorem BU {xs:List Nd} {s:St} {ps:List By} (hP:Pos xs s ps) (f:St->By->Vw->Option Vw)
  (hf:∀q∈jy xs s,q.1.dir=true->∀v v',A0 v.o q.1.id (ps++[q.2])->BR xs v->f q.1.id (fH (ps++[q.2])) v=some v'->BR xs v'/\∀x∈v.o,x∈v'.o):
  ∀(qs:List (Nd×By)) (v v':Vw),(∀q∈qs,q∈jy xs s)->(∀q∈qs,kI (fH ps) q∈v.o)->BR xs v->lD f (fH ps) qs v=some v'->BR xs v'/\∀x∈v.o,x∈v'.o
 | [],v,v',_,_,hv,h=>by
  simp only [lD,Option.some.injEq] at h;subst h;exact ⟨hv,λ_ hx=>hx⟩
 |q :: r,v,v',hq,hi,hv,h=>by
  rw [lD] at h;by_cases c:q.1.dir=true
  ·rw [if_pos c] at h
   cases hg:f q.1.id (fH ps++q.2++[47]) v with
   |none=>rw [hg] at h;cases h
   |some v1=>
    rw [hg,Option.bind_some] at h;obtain ⟨a1,a2⟩:=hf q (hq q (by simp)) c v v1 (.inr ⟨kI (fH ps) q,hi q (by simp),rfl,c,by rw [rV];rfl⟩) hv (by rw [rV];exact hg);obtain ⟨b1,b2⟩:=BU hP f hf r v1 v' (λx hx=>hq x (by simp [hx])) (λx hx=>a2 _ (hi x (by simp [hx]))) a1 h;exact ⟨b1,λx hx=>b2 x (a2 x hx)⟩
  ·rw [if_neg c] at h
   exact BU hP f hf r v v' (λx hx=>hq x (by simp [hx])) (λx hx=>hi x (by simp [hx])) hv h
theorem Il {xs:List Nd}:∀(k:Nat) (s:St) (ps:List By) (v v':Vw),Pos xs s ps->ps.length+k=16->A0 v.o s ps->BR xs v->jL xs k s (fH ps) v=some v'->BR xs v'/\∀x∈v.o,x∈v'.o
 |0,s,ps,v,v',hP,hl,hh,hv,h=>by
  rw [jL] at h;by_cases c:fo s xs=[]
  ·rw [if_pos c,Option.some.injEq] at h
   subst h;exact ⟨hv,λ_ hx=>hx⟩
  ·rw [if_neg c] at h;cases h
 |k+1,s,ps,v,v',hP,hl,hh,hv,h=>by
  rw [jL] at h;cases hg:DP (fH ps) (jy xs s) v with
  |none=>rw [hg] at h;cases h
  |some v1=>
   rw [hg,Option.bind_some] at h;obtain ⟨a1,a2,a3⟩:=BT hP (by omega) _ _ _ (λq hq=>hq) hh hv hg;obtain ⟨b1,b2⟩:=BU hP (jL xs k) (λq hq hd v v' hh hv h=>Il k q.1.id (ps++[q.2]) v v' (Pos.sub hP hq hd) (by simp;omega) hh hv h) _ _ _ (λq hq=>hq) a3 a1 h;exact ⟨b1,λx hx=>b2 x (a2 x hx)⟩
theorem Im {out:List It} (h:rU xs=some out):(out.map It.id).Nodup/\∀it∈out,NM xs out it:=by
 unfold rU at h;cases hg:jL xs 16 (0,0) [] ⟨[],[]⟩ with
 |none=>rw [hg] at h;cases h
 |some v=>
  rw [hg,bI,Option.some.injEq] at h;subst h;obtain ⟨a,_⟩:=Il (xs:=xs) 16 (0,0) [] ⟨[],[]⟩ v Pos.root rfl (.inl ⟨rfl,rfl⟩) ⟨λi=>by simp,by simp,λit hit=>by cases hit⟩ hg;exact ⟨a.nodup,a.ok⟩
variable {g:By}
theorem vh {n:Nd} (h:(n,g)∈jy xs s):n∈xs/\n.par=s/\g∈jf xs s:=by
 unfold jy at h;have h1:=(List.of_mem_zip h).1;unfold fo at h1;rw [List.mem_filter] at h1;exact ⟨h1.1,of_decide_eq_true h1.2,(List.of_mem_zip h).2⟩
theorem vi (s:St) (xs:List Nd):(fo s xs).length<=xs.length:=List.length_filter_le _ _
theorem mE (hx:xs.length<=80) (hr:∀n∈xs,rightN n.nm=true) (s:St) (h:g∈jf xs s):rightN g=true:=by
 have:=vi s xs;refine (sy (l:=(fo s xs).map Nd.nm) (by rw [bJ];omega)).2.2 (λx hx=>?_) g h;obtain ⟨n,hn,rfl⟩:=aU.1 hx;unfold fo at hn;exact hr n (List.mem_filter.1 hn).1
theorem Ru (hx:xs.length<=80) {n m:Nd} (h1:(n,g)∈jy xs s) (h2:(m,g)∈jy xs s):n=m:=by
 have hl:=vi s xs;obtain ⟨u1,u2,_⟩:=sy (l:=(fo s xs).map Nd.nm) (by rw [bJ];omega);unfold jy at h1 h2;obtain ⟨i,hi,e1⟩:=bR.1 h1;obtain ⟨j,hj,e2⟩:=bR.1 h2;rw [List.getElem_zip] at e1 e2;have f1:=Prod.mk.inj e1;have f2:=Prod.mk.inj e2;have hp:=dF.1 u2;have hij:i=j:=by
  rcases Nat.lt_trichotomy i j with k|k|k
  ·exact absurd (f1.2.trans f2.2.symm) (hp i j _ _ k)
  ·exact k
  ·exact absurd (f2.2.trans f1.2.symm) (hp j i _ _ k)
 subst hij;exact f1.1.symm.trans f2.1
theorem Pos.right (hx:xs.length<=80) (hr:∀n∈xs,rightN n.nm=true) (h:Pos xs s ps):∀p∈ps,rightN p=true:=by
 induction h with
 |root=>intro p hp;cases hp
 |sub h1 h2 _ ih=>
  intro p hp;rcases aq.1 hp with h|h
  ·exact ih p h
  ·rw [aW] at h
   subst h;exact mE hx hr _ (vh h2).2.2
theorem Pos.inj {xs:List Nd} (hx:xs.length<=80) {s:St} {ps:List By} (h:Pos xs s ps):∀{t:St},Pos xs t ps->s=t:=by
 induction h with
 |root=>
  intro t h;generalize hps:([]:List By)=ps at h;cases h with
  |root=>rfl
  |sub=>simp at hps
 | @sub s ps n g h1 h2 _ ih=>
  intro t h;generalize hps:ps++[g]=qs at h;cases h with
  |root=>simp at hps
  | @sub s' ps' n' g' k1 k2 _=>
   obtain ⟨e1,e2⟩:=List.append_inj' hps rfl;simp only [List.cons.injEq,and_true] at e2;subst e1 e2;have:=ih k1;subst this;rw [Ru hx h2 k2]
def ey:By->List By
 | []=>[[]]
 |c :: r=>if c=47 then [] :: ey r else match ey r with
  | []=>[[c]]
  |p :: ps=>(c :: p) :: ps
theorem we:∀{g:By},(47:UInt8)∉g->ey g=[g]
 | [],_=>rfl
 |c :: r,h=>by
  have hc:c≠47:=λe=>h (by simp [e])
  rw [ey,if_neg hc,we (λhm=>h (by simp [hm]))]
theorem wg:∀{p r:By},(47:UInt8)∉p->ey (p++47 :: r)=p :: ey r
 | [],r,_=>by rw [ak,ey,if_pos rfl]
 |c :: p,r,h=>by
  have hc:c≠47:=λe=>h (by simp [e])
  rw [bC,ey,if_neg hc,wg (λhm=>h (by simp [hm]))]
def DQ (s:By):Bool:=decide ((ey s).length<=16) && (ey s).all rightN
def withinB (path below:By):Bool:=decide (below=[46]) || decide (path=below) || ((below++[47]).isPrefixOf path && !decide (path=below++[47]))
end
section
open Go.Sort
def ql (a b:It):Bool:=decide (a.path < b.path)
theorem Fu:SWO ql where
 irrefl x:=by simp [ql,List.lt_irrefl]
 trans x y z h1 h2:=by simp only [ql,decide_eq_true_eq] at*;exact List.lt_trans h1 h2
 ntrans x y z h1 h2:=by
  simp only [ql,decide_eq_false_iff_not,List.not_lt] at*;exact List.le_trans h2 h1
def jg (out:List It):List It:=(qI ql out.toArray).toList
theorem jA (out:List It):(jg out).Perm out/\(jg out).Pairwise λa b=>ql b a=false:=by
 obtain ⟨⟨h1,_,h2⟩,h3⟩:=zz Fu out.toArray;have e1:(qI ql out.toArray).extract 0 out.toArray.size=qI ql out.toArray:=by rw [<-h1];simp
 have e2:out.toArray.extract 0 out.toArray.size=out.toArray:=by simp
 rw [e1,e2] at h2;refine ⟨h2,?_⟩;rw [dF];intro i j hi hj hij;have hi':i < (qI ql out.toArray).size:=hi;have hj':j < (qI ql out.toArray).size:=hj;have:=h3 i j (aS _) hij (by rw [<-h1];exact hj');rw [getElem!_pos _ i hi',getElem!_pos _ j hj'] at this;exact this
def ja (xs:List Nd):Option (List It):=(rU xs).map jg
end
section
open Go.RowKit
attribute [local go_sem] dR dO dS dP
theorem Rv {xs:List Nd} {k:Nat} (h:k < xs.length):(xs.take (k+1)).map Nd.nm=(xs.take k).map Nd.nm++[xs[k].nm]:=by
 rw [ay h,bQ];rfl
theorem A8 (A:Option Addr) (n c:Nat) (xs:List Nd) (w:World) (hx:lu w A n c xs) (hl:xs.length<=80) (hr:∀x∈xs,rightN x.nm=true):
  Calls prog 46 #[Qq A n c] w λe w'=>∃v,e=.returned (.tuple #[v,qn])/\fm w' w v (rQ (xs.map Nd.nm))/\Below w w w':=by
 obtain ⟨i0,gV,hz0,hz1,hz2⟩:=info_parts DL;have hn:=hx.len;have hsh:=hx.short;have HX:=dL hx;have HI:=dL gV;have gx:=dL hz0;have gJ:=dL hz1;have gT:=dL hz2;have HR:dK (∀x∈xs.map Nd.nm,rightN x=true):=λx h=>by
  obtain ⟨y,hy,rfl⟩:=aU.1 h;exact hr y hy
 have yQ:dK (nM (xs.map Nd.nm)):=λx h=>by
  obtain ⟨y,hy,rfl⟩:=aU.1 h;exact (hsh y hy).1
 clear hx gV hz0 hz1 hz2 hr hsh;go_enter func46,ntmps46;go_wp2_with fail;go_loopw [9,4] (λi u wr=>∃k:Nat,i=.int .i64 k/\k<=n/\fm wr w u ((xs.take k).map Nd.nm)/\Below w w wr) (λi _ _=>n - (intOf i).toNat)
 case atStart=>exact ⟨0,rfl,aS _,dQ.nil_ _ _ _,aC _ _⟩
 case round=>
  obtain ⟨k,rfl,hk,hO,hb⟩:=hrel;rcases aD k n with hlt|hge
  ·obtain ⟨b,off,rfl,jW,c0,c1,c2,c3,c4,c5,c6,_⟩:=lu.at_ (HX.o.below hb) (by omega:k < xs.length)
   have HT:=dL (Rv (show k < xs.length by omega));have hol:((xs.take k).map Nd.nm).length<=80:=by rw [bJ,aR];omega
   have RF:=dL hol;generalize hL:(xs.take k).map Nd.nm=L at*;generalize xs[k]=x at*;have hki:(k:Int) < (n:Int):=by omega
   obtain ⟨A2,YX,rfl⟩:=dQ.isSlice hO;have RD:=dQ.alloc hO (.cells #[x.id.1,x.id.2,x.dir,x.par.1,x.par.2,x.nm,x.mf] 38);have dY:=hb.alloc hb.size (.cells #[x.id.1,x.id.2,x.dir,x.par.1,x.par.2,x.nm,x.mf] 38);have qL:=dL (dQ.alloc RD (.cells #[x.nm] 9));have eC:=dL (dY.alloc dY.size (.cells #[x.nm] 9));clear hO RD hb dY hol hL;go_wp2_with (at_builtin;refine dW _ rfl (.tmp 13) (.tmp 16) 99 99 rfl 9 i0 (.string ⟨#[]⟩) 1 underlying99 HI.o gx.o gJ.o rfl (by decide) w _ L.length (strs L) rfl qL.o (.slice (some ⟨wr.heap.size+1,0,none⟩) 1 1) rfl 1 [.string (bs x.nm)] ?c1 ?c3 ?c4 ?c5 ?_)
   case c1=>exact Src.one underlying99 (by simp [go_sem]) rfl
   case c3=>have:=RF.o;unfold maxLen;omega
   case c4=>have:=RF.o;rw [gT.o];omega
   case c5=>exact eC.o.size
   intro v' w5 hown hgrow fR;have zU:=dL (fm.snoc hown);have qA:=dL (iD eC.o (aB _) eC.o.size qL.o hgrow);clear hown hgrow fR;go_wp2_with fail;exact ⟨⟨k+1,by go_num,by omega,by rw [HT.o];exact zU.o,qA.o⟩,by simp [intOf];omega⟩
  ·obtain rfl:k=n:=by omega
   have hkn:¬ (k:Int) < (k:Int):=by omega
   rw [af (by omega)] at hO;obtain ⟨A2,c2,hv,hS⟩:=fm.strs hO yQ.o;rw [bJ,hn] at hv hS;subst hv;have HU:=dL (wW A2 _ c2 _ wr hS (by rw [bJ];omega) HR.o);have HB:=dL hb;clear hO hS hb;go_wp2_with fail;refine HU.o.mono ?_;rintro e w2 ⟨v,rfl,ho,dY⟩;obtain ⟨A3,c3,rfl⟩:=dQ.isSlice ho;have zW:=dL (ho.mono HB.o.size);have eA:=dJ HB dY;clear ho dY;go_wp2_with fail;go_ret2;exact ⟨_,rfl,zW.o,eA.o⟩
#print axioms A8
end
section
open Go.RowKit
def ic (x:It):List Value:=[.string (bs x.path),.int .i64 x.id.1,.int .i64 x.id.2,.bool x.dir,.bool false,.string (bs x.mf)]
def FP (l:List It):List Value:=l.flatMap ic
theorem NN (l:List It) (x:It):FP (l++[x])=FP l++ic x:=by simp [FP]
theorem Rw (l:List It):(FP l).length=l.length*6:=by
 induction l with
 |nil=>rfl
 |cons x l ih=>simp only [FP,aj,aP,aY] at ih ⊢;rw [ih];simp [ic];omega
theorem NO (x:It):∀u∈ic x,u.oneCell'=true:=by
 intro u hu;simp [ic] at hu;rcases hu with rfl|rfl|rfl|rfl|rfl|rfl <;> rfl
structure KV (bo M:Nat) (w w':World) (u u':Value):Prop where
 base:Below 0 w w'
 block:∀g,g < w.heap.size->g≠bo->g≠M->u.ownBlock≠some g->w'.heap[g]? =w.heap[g]?
 own:u'.ownBlock=u.ownBlock\/∃k,u'.ownBlock=some k/\w.heap.size<=k
section
variable {bo M:Nat} {a b c w w':World} {u v x u':Value}
theorem KV.refl (bo M:Nat) (w:World) (u:Value):KV bo M w w u u:=⟨aC _ _,λ_ _ _ _ _=>rfl,.inl rfl⟩
theorem KV.ne (h:KV bo M a b u v) {g:Nat} (hg:g < a.heap.size) (h3:u.ownBlock≠some g):v.ownBlock≠some g:=by
 rcases h.own with e| ⟨k,e,hk⟩
 ·rw [e];exact h3
 ·rw [e];intro e2;have:=aX e2;omega
theorem KV.trans (h:KV bo M a b u v) (k:KV bo M b c v x):KV bo M a c u x:=
 ⟨h.base.trans k.base,λg hg h1 h2 h3=>(k.block g (aN hg h.base.size) h1 h2 (h.ne hg h3)).trans (h.block g hg h1 h2 h3),by
  rcases k.own with e| ⟨q,e,hq⟩
  ·rcases h.own with e2| ⟨q,e2,hq⟩
   ·exact .inl (e.trans e2)
   ·exact .inr ⟨q,e.trans e2,hq⟩
  ·exact .inr ⟨q,e,aI h.base.size hq⟩⟩
theorem KV.of_below (hb:Below w w w'):KV bo M w w' u u:=⟨hb.mono (aS _),λg hg _ _ _=>hb.block g hg,.inl rfl⟩
theorem KV.below (h:KV bo M a b u v) (hb:Below b b c):KV bo M a c u v:=h.trans (KV.of_below hb)
theorem KV.mark (h:KV bo M a b u v) (hg:b.grownBy c (some M)):KV bo M a c u v:=
 h.trans ⟨⟨hg.os,hg.tape,hg.output,hg.size,λ_ h=>absurd h (Nat.not_lt_zero _)⟩,λg hlt _ h2 _=>hg.block g hlt (λe=>h2 (aX e)),.inl rfl⟩
theorem KV.push (h:KV bo M a b u v) (hg:b.grownBy c v.ownBlock) (fR:x.ownBlock=v.ownBlock\/x.ownBlock=some b.heap.size):KV bo M a c u x:=
 h.trans ⟨⟨hg.os,hg.tape,hg.output,hg.size,λ_ h=>absurd h (Nat.not_lt_zero _)⟩,λg hlt _ _ h3=>hg.block g hlt (λe=>h3 e.symm),fR.elim .inl λe=>.inr ⟨_,e,aB _⟩⟩
theorem KV.store (h:KV bo M a b u v) (y:Value):KV bo M a (b.setCell bo y) u v:=
 h.trans ⟨(aC 0 b).setCell (aS _) y,λg _ h1 _ _=>bU b ⟨bo,0,none⟩ y g h1,.inl rfl⟩
theorem dQ.keepV {B size n:Nat} {xs:List Value} (h:dQ w B size v n xs) (k:KV bo M w w' u u') (h1:v.ownBlock≠some bo) (h2:v.ownBlock≠some M) (h3:∀g,v.ownBlock=some g->u.ownBlock≠some g):dQ w' B size v n xs:=by
 refine ⟨h.1,?_⟩;rcases h.2 with hn| ⟨g,cap,rfl,hb,hlt,hnc,hcm,hs,hf,hx⟩
 ·exact .inl hn
 ·have hblk:w'.heap[g]? =w.heap[g]?:=k.block g hlt (λe=>h1 (by simp [Value.ownBlock,e])) (λe=>h2 (by simp [Value.ownBlock,e])) (h3 g (by simp [Value.ownBlock]))
  have hc:∀j,w'.cell? ⟨g,j,none⟩=w.cell? ⟨g,j,none⟩:=λj=>aM (a:=⟨g,j,none⟩) hblk
  have hz:∀j,w'.frozen? ⟨g,j,none⟩=w.frozen? ⟨g,j,none⟩:=λj=>World.frozen?_of_block (a:=⟨g,j,none⟩) hblk
  exact .inr ⟨g,cap,rfl,hb,aN hlt k.base.size,hnc,hcm,λj hj=>by rw [hc];exact hs j hj,λj hj=>by rw [hz];exact hf j hj,λj u hu=>by rw [hc];exact hx j u hu⟩
theorem Blk.keepV {g:Nat} {t:TypeId} {cs:Array Value} (h:Blk w g t cs) (k:KV bo M w w' u u') (h1:g≠bo) (h2:g≠M) (h3:u.ownBlock≠some g):Blk w' g t cs:=(k.block g h.lt h1 h2 h3).trans h
end
variable {w:World}
theorem Blk.ne {a b:Nat} {t t':TypeId} {cs cs':Array Value} (h:Blk w a t cs) (k:Blk w b t' cs') (ht:t≠t'):a≠b:=by
 rintro rfl;unfold Blk at h k;rw [h] at k;injection k with e
 injection e with e1 e2
 exact ht e2
theorem Met.ne {M a:Nat} {l:List St} {t:TypeId} {cs:Array Value} (h:Met w M l) (k:Blk w a t cs):a≠M:=by
 rintro rfl;obtain ⟨f,⟨ms,ck,hb,_⟩,_⟩:=h;unfold Blk at k;rw [hb] at k;cases k
def oe (bn bm bo bd:Nat):Value:=.func (.func 44) #[] #[Qp bn,Qp bm,Qp bo,Qp bd]
structure VI (w0 w:World) (bn bm bo bd M B1:Nat) (nv u:Value) (v:Vw):Prop where
 below:Below w0 w0 w
 ge:w0.heap.size<=bn/\w0.heap.size<=bm/\w0.heap.size<=bo/\w0.heap.size<=bd/\w0.heap.size<=M
 lt:bn < B1/\bm < B1/\bo < B1/\bd < B1/\M < B1
 hB:B1<=w.heap.size
 nb:Blk w bn 33 #[nv]
 mb:Blk w bm 96 #[.map (some M)]
 ob:Blk w bo 40 #[u]
 db:Blk w bd 97 #[oe bn bm bo bd]
 met:Met w M v.met
 own:dQ w B1 6 u v.o.length (FP v.o)
section
variable {w0 w w':World} {bn bm bo bd M B1:Nat} {nv u u':Value} {v v':Vw}
theorem VI.own_ne (h:VI w0 w bn bm bo bd M B1 nv u v) {g:Nat} (hg:g < B1):u.ownBlock≠some g:=λe=>by have:=(h.own.ge g e).1;omega
theorem VI.stay (h:VI w0 w bn bm bo bd M B1 nv u v) (hb:Below w w w'):VI w0 w' bn bm bo bd M B1 nv u v:=
 ⟨h.below.trans (hb.mono h.below.size),h.ge,h.lt,aI h.hB hb.size,h.nb.below hb h.nb.lt,h.mb.below hb h.mb.lt,h.ob.below hb h.ob.lt,h.db.below hb h.db.lt,h.met.heap (hb.block M h.met.lt),h.own.below hb⟩
theorem VI.drew (h:VI w0 w bn bm bo bd M B1 nv u v):VI w0 w.drew bn bm bo bd M B1 nv u v:=h.stay (aC _ w).drew
theorem VI.alloc (h:VI w0 w bn bm bo bd M B1 nv u v) (o:Obj):VI w0 (w.alloc o) bn bm bo bd M B1 nv u v:=h.stay ((aC _ w).alloc (aB _) o)
theorem VI.mark (h:VI w0 w bn bm bo bd M B1 nv u v) {l:List St} (hm:Met w' M l) (hg:w.grownBy w' (some M)):VI w0 w' bn bm bo bd M B1 nv u ⟨l,v.o⟩:=by
 have e:∀{g:Nat},g≠M->some g≠some M:=λhne q=>hne (aX q)
 refine ⟨eY h.below hg h.ge.2.2.2.2 h.below.size,h.ge,h.lt,aI h.hB hg.size,h.nb.grown hg (e (h.met.ne h.nb)),h.mb.grown hg (e (h.met.ne h.mb)),h.ob.grown hg (e (h.met.ne h.ob)),h.db.grown hg (e (h.met.ne h.db)),hm,h.own.kept hg ?_⟩;exact .inr (h.own_ne h.lt.2.2.2.2)
theorem VI.push (h:VI w0 w bn bm bo bd M B1 nv u v) {x:It} (ho:dQ w' B1 6 u' (v.o.length+1) (FP v.o++ic x)) (hg:w.grownBy w' u.ownBlock):VI w0 (w'.setCell bo u') bn bm bo bd M B1 nv u' ⟨v.met,v.o++[x]⟩:=by
 have q:∀{g:Nat},g < B1->some g≠u.ownBlock:=λhl e=>h.own_ne hl e.symm
 obtain ⟨l1,l2,l3,l4,l5⟩:=h.lt;have n1:=h.nb.ne h.ob (by decide);have n2:=h.mb.ne h.ob (by decide);have n4:=h.db.ne h.ob (by decide);have n5:M≠bo:=(h.met.ne h.ob).symm;refine ⟨(h.below.grown hg h.below.size (λk e=>by have:=(h.own.ge k e).1;have:=h.ge.1;omega)).setCell h.ge.2.2.1 _,h.ge,h.lt,by simp;exact aI h.hB hg.size,(h.nb.grown hg (q l1)).far n1 _,(h.mb.grown hg (q l2)).far n2 _,?_,(h.db.grown hg (q l4)).far n4 _,?_,?_⟩
 ·have:=Blk.set_ (h.ob.grown hg (q l3)) 0 u'
  simpa using this
 ·exact h.met.heap ((bU w' ⟨bo,0,none⟩ u' M n5).trans (hg.block M h.met.lt (q l5)))
 ·have:=ho
  have hne:∀k,u'.ownBlock=some k->k≠bo:=λk e=>by have:=(ho.ge k e).1;omega
  rw [show (v.o++[x]).length=v.o.length+1 by simp,NN];refine ⟨ho.1,?_⟩;rcases ho.2 with hn| ⟨g,cap,rfl,hb,hlt,hnc,hcm,hs,hf,hx⟩
  ·exact .inl hn
  ·have XM:g≠bo:=hne g (by simp [Value.ownBlock])
   have hblk:=bU w' ⟨bo,0,none⟩ (.slice (some g) (v.o.length+1) cap) g XM;have hc:∀j,(w'.setCell bo (Qs g (v.o.length+1) cap)).cell? ⟨g,j,none⟩=w'.cell? ⟨g,j,none⟩:=λj=>aM (a:=⟨g,j,none⟩) hblk
   have hz:∀j,(w'.setCell bo (Qs g (v.o.length+1) cap)).frozen? ⟨g,j,none⟩=w'.frozen? ⟨g,j,none⟩:=λj=>World.frozen?_of_block (a:=⟨g,j,none⟩) hblk
   exact .inr ⟨g,cap,rfl,hb,by simpa using hlt,hnc,hcm,λj hj=>by rw [hc];exact hs j hj,λj hj=>by rw [hz];exact hf j hj,λj u hu=>by rw [hc];exact hx j u hu⟩
end
structure NP (xs:List Nd) (v:Vw):Prop where
 nodup:v.met.Nodup
 len:v.met.length=v.o.length
 sub:∀i∈v.met,i∈xs.map Nd.id
variable {xs:List Nd}
theorem NP.le {v:Vw} (h:NP xs v):v.o.length<=xs.length:=by
 rw [<-h.len,<-bJ (f:=Nd.id)];exact iN h.nodup h.sub
theorem NP.push {v:Vw} (h:NP xs v) {n:Nd} (hn:n∈xs) (hm:n.id∉v.met) (x:It):NP xs ⟨v.met++[n.id],v.o++[x]⟩:=
 ⟨cE.2 ⟨h.nodup,by simp,λa ha b hb e=>hm (by rw [<-aW.1 hb,<-e];exact ha)⟩,by simp [h.len],λi hi=>by
  rcases aq.1 hi with h1|h1
  ·exact h.sub i h1
  ·rw [aW.1 h1];exact aU.2 ⟨n,hn,rfl⟩⟩
def wh (k:Nat) (ahead:By):List (Nd×By)->Vw->Option Vw
 | [],v=>some v
 |q :: r,v=>if k=0\/q.1.id∈v.met then none else wh k ahead r ⟨v.met++[q.1.id],v.o++[kI ahead q]⟩
def gK (xs:List Nd):Nat->St->By->Vw->Option Vw
 |0=>λ_ _ _=>none
 |k+1=>jL xs k
theorem AA (k:Nat) (ahead:By):∀(l:List (Nd×By)) (v:Vw),wh (k+1) ahead l v=DP ahead l v
 | [],v=>rfl
 |q :: r,v=>by
  rw [wh,DP,AA k ahead r];by_cases c:q.1.id∈v.met
  ·rw [if_pos c,if_pos (.inr c)]
  ·rw [if_neg c,if_neg (λh=>h.elim (by omega) c)]
theorem wj (xs:List Nd) (hx:xs.length<=80) (s:St):(jy xs s).length=(fo s xs).length/\(jf xs s).length=(fo s xs).length:=by
 have h1:=vi s xs;have h2:(jf xs s).length=(fo s xs).length:=by
  unfold jf;rw [(sy (l:=(fo s xs).map Nd.nm) (by rw [bJ];omega)).1,bJ]
 refine ⟨?_,h2⟩;unfold jy;rw [List.length_zip,h2];omega
theorem Rx (xs:List Nd) (hx:xs.length<=80) (k:Nat) (s:St) (ahead:By) (v:Vw):jL xs k s ahead v=(wh k ahead (jy xs s) v).bind (lD (gK xs k) ahead (jy xs s)):=by
 cases k with
 |succ k=>rw [jL,AA];rfl
 |zero=>
  rw [jL];by_cases c:fo s xs=[]
  ·have:jy xs s=[]:=az (by rw [(wj xs hx s).1,c];rfl)
   rw [if_pos c,this];rfl
  ·rw [if_neg c]
   cases hg:jy xs s with
   |nil=>exact absurd (az (by rw [<-(wj xs hx s).1,hg];rfl)) c
   |cons q r=>rw [wh,if_pos (.inl rfl)];rfl
end
end Go.Proofs.YtgdaahffmcfhpaaGreatDoor
