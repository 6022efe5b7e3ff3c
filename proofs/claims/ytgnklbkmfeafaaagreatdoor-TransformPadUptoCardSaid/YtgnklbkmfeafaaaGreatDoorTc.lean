/-
  Narrations by their syntax: the program's text.
-/
import Derived.Test.YtgnklbkmfeafaaaGreatDoorTb
set_option maxHeartbeats 0
set_option maxRecDepth 100000
namespace Go.Vm
variable {α:Type}
def XM {α:Type} (p:α→Bool):List α→Nat→Int
 | [],_=> -1
 |x::r,i=>if p x=true then (i:Int) else XM p r (i+1)
theorem Vx {α:Type} (p:α→Bool):∀ (l:List α) (i:Nat),l.any p=decide (0≤XM p l i)
 | [],i=>by simp [XM]
 | x :: r, i => by
   rw [List.any_cons]
   by_cases h:p x=true
   · have e : XM p (x :: r) i = (i : Int) := if_pos h
     rw [e,h];simp
   · have e : XM p (x :: r) i = XM p r (i + 1) := if_neg h
     rw [e, ← Vx p r (i+1)]
     simp only [Bool.not_eq_true] at h
     rw [h];rfl
theorem VV {p:α→Bool} {l:List α} {i j:Nat} {x:α} (h:l[i]? = some x):XM p (l.drop i) j=if p x=true then (j:Int) else XM p (l.drop (i+1)) (j+1):=by
 rw [Zs h];rfl
def Vd (s:Zg):Bool:= !Yw s
theorem Zfm (p:α→Bool) (l:List α):l.any (fun x=> !p x)= !l.all p:=by
 induction l with
 |nil=>rfl
 |cons a r ih=>simp only [List.any_cons,List.all_cons,ih,Bool.not_and]
end Go.Vm
namespace Go.Vm.Seat
variable {l:List Zg}
open Go.Proofs
theorem ixW (hl:∀ s,s∈l→s.length≤maxLen) (hlen:l.length≤100000) (b:Bool):∀ H,CallOk E0 Tryz.prog 149 [slV b 1 (Zo l),.fn 100 []] H (.int .i64 (XM Vd l 0)) H:=by
 have hsl:=ZA l
 refine Jw tOk fe149.ok rfl ?_
 repeat' first|refine Ji ?_|refine JJ ?_|refine Jl ?_|refine Jx ?_|refine Jt ?_|refine Jb ?_ ?_|(apply qT (ty:=0);rfl;rfl;rfl)|(apply qF (ty:=0);rfl;rfl;rfl)|refine Jz ?_ ?_|refine Jo ?_|intro hb
 refine Wp.while (fun m tm H=>∃ (i:Nat) (base:TM),i+m=l.length∧XM Vd l 0=XM Vd (l.drop i) i∧tm=ovr base [(0,slV b 1 (Zo l)),(1,.fn 100 []),(7,.int .i64 (l.length:Int)),(8,.int .i64 (i:Int))]∧H=⟨[],0,[],0⟩)
  (fun m tm H hI=>?_) l.length _ _ ⟨0,_,by omega,by simp,Ze ⟨rfl,rfl,Zt (by rw [hsl]),rfl,trivial⟩,rfl⟩
 obtain ⟨i,base,hi,hgo,rfl,rfl⟩:=hI
 rw [hgo]
 by_cases hlt:i<l.length
 · obtain ⟨a, ha⟩ : ∃ a, l[i]? = some a := ⟨l[i], by simp⟩
   have hj:=Z7 ha
   have hc:=Zgf a (hl a (List.mem_of_getElem? ha))
   have hlx:=Zk (i:Int) (l.length:Int)
   rw [decide_eq_true (by omega)] at hlx
   rw [VV ha]
   have hc:∀ H,CallOk E0 Tryz.prog 100 [.str a] H (.bool (Vd a)) H:=hc
   generalize Vd a=B at hc ⊢
   cases B with
   | true =>
     rw [if_pos rfl]
     repeat' first|refine Jc (hc _) ?_|refine Ji ?_|refine JJ ?_|refine Jl ?_|refine Jx ?_|refine Jt ?_|refine Jb ?_ ?_|(apply qT (ty:=0);rfl;rfl;rfl)|(apply qF (ty:=0);rfl;rfl;rfl)|refine Jz ?_ ?_|refine Jo ?_|intro hb
     all_goals rfl
   | false =>
     rw [if_neg (by simp)]
     repeat' first|refine Jc (hc _) ?_|refine Ji ?_|refine JJ ?_|refine Jl ?_|refine Jx ?_|refine Jt ?_|refine Jb ?_ ?_|(apply qT (ty:=0);rfl;rfl;rfl)|(apply qF (ty:=0);rfl;rfl;rfl)|refine Jz ?_ ?_|refine Jo ?_|intro hb
     exact LoopI.go (m-1) (by omega) ⟨i+1,_,by omega,rfl,Ze ⟨rfl,rfl,rfl,Zt (Yr (n:=i+1) (by omega)),trivial⟩,rfl⟩
 · have e : i = l.length := by omega
   subst e
   have hlx:=Zk (l.length:Int) (l.length:Int)
   rw [decide_eq_false (by omega)] at hlx
   rw [List.drop_length]
   repeat' first|refine Ji ?_|refine JJ ?_|refine Jl ?_|refine Jx ?_|refine Jt ?_|refine Jb ?_ ?_|(apply qT (ty:=0);rfl;rfl;rfl)|(apply qF (ty:=0);rfl;rfl;rfl)|refine Jz ?_ ?_|refine Jo ?_|intro hb
   all_goals rfl
theorem ZiM (hl:∀ s,s∈l→s.length≤maxLen) (hlen:l.length≤100000) (b:Bool):∀ H,CallOk E0 Tryz.prog 130 [slV b 1 (Zo l),.fn 100 []] H (.bool (!l.all Yw)) H:=by
 have hc:=ixW hl hlen b
 rw [← Zfm,show (l.any fun x=> !Yw x)=l.any Vd from rfl,Vx _ l 0]
 have hge:=VX (XM Vd l 0) 0
 generalize XM Vd l 0=x at hc hge ⊢
 generalize decide (0≤x)=A at hge ⊢
 refine Jw tOk fe130.ok rfl ?_
 cases A
 all_goals
  repeat' first|refine Jc (hc _) ?_|refine Ji ?_|refine Jt ?_|refine Jb ?_ ?_|refine Jo ?_|intro hb
  all_goals rfl
