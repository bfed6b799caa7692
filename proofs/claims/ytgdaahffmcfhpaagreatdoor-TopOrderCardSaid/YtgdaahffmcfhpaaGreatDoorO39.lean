/- Lemmas on the way: VCm. -/
import Derived.Sort.Grow
import Derived.Test.YtgdaahffmcfhpaaGreatDoorO32
set_option maxRecDepth 100000
set_option maxHeartbeats 8000000
namespace Go.Proofs.YtgdaahffmcfhpaaGreatDoor
open aA
open Tryz
section
open Go.RowKit Go.Sort
attribute [local go_sem] dR dO dS dP
theorem xg (a b:St) (w:World):Calls prog 12 #[.agg #[a.1,a.2],.agg #[b.1,b.2]] w λe w'=>e=.returned (di a b)/\w'=(w.alloc (.cells #[a.1,a.2] 30)).alloc (.cells #[b.1,b.2] 30):=by
 by_cases h:a.1=b.1
 ·have e:(a.1 ==b.1)=true:=beq_iff_eq.2 h
  have hf:di a b=decide (a.2 < b.2):=by unfold di;simp [h]
  rw [hf];have e2:(a.1 != b.1)=false:=by simp [h]
  clear h hf;go_enter func12,ntmps12;go_wp2_with fail;go_ret;exact ⟨rfl,rfl⟩
 ·have e:(a.1 ==b.1)=false:=beq_eq_false_iff_ne.2 h
  have e2:(a.1 != b.1)=true:=by simp [h]
  have hf:di a b=decide (a.1 < b.1):=by unfold di;simp [h]
  rw [hf];clear h hf;go_enter func12,ntmps12;go_wp2_with fail;go_ret;exact ⟨rfl,rfl⟩
def EO (x y:Nd):Int:=if di x.id y.id then -1 else 1
theorem P4 (x y:Nd) (W:World):Calls prog 43 #[nv x,nv y] W λe w'=>e=.returned (.int .i64 (EO x y))/\∃q os',w'=grow (W.drewN q) os':=by
 have hG:∃q os',(((W.alloc (.cells (nc x).toArray 38)).alloc (.cells (nc y).toArray 38)).alloc (.cells #[x.id.1,x.id.2] 30)).alloc (.cells #[y.id.1,y.id.2] 30)=grow (W.drewN q) os':=
  ⟨0,_,by rw [alloc_eq_grow,alloc_eq_grow,alloc_eq_grow,alloc_eq_grow,grow_grow,grow_grow,grow_grow];rfl⟩
 have HG:=dL hG;unfold nc at HG;clear hG;unfold nv EO;cases hl:di x.id y.id with
 |true=>
  have HL:=dL hl;clear hl;go_enter func43,ntmps43;go_wp2_with (go_at_call 12;refine (xg _ _ _).mono ?_;rintro e w' ⟨rfl,rfl⟩;rw [HL.o])
  go_ret;exact ⟨rfl,HG.o⟩
 |false=>
  have HL:=dL hl;clear hl;go_enter func43,ntmps43;go_wp2_with (go_at_call 12;refine (xg _ _ _).mono ?_;rintro e w' ⟨rfl,rfl⟩;rw [HL.o])
  go_ret;exact ⟨rfl,HG.o⟩
end
end Go.Proofs.YtgdaahffmcfhpaaGreatDoor
