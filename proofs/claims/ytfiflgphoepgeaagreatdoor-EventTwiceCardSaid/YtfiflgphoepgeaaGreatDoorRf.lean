/-
  EventTwice: the law's function returns true.
-/
import Derived.Test.YtfiflgphoepgeaaGreatDoorRd
set_option maxHeartbeats 0
set_option maxRecDepth 100000
namespace Go.Vm
variable {k:Int} {n:Nat} {t:Tm} {m:Mo} {l:List Mo}
theorem Zjg {s:Bs} (h:Z8 s=true):s.length≤24:=by
 cases s with
 |nil=>exact Nat.zero_le _
 | cons c r =>
   simp only [Z8,Bool.and_eq_true,decide_eq_true_eq] at h
   exact h.1
theorem ZhM {nm:Bs} {s:Int} (h:Yw k nm s n=0):Z8 nm=true:=by
 unfold Yw at h
 split at h
 · cases h
 split at h
 · cases h
 · rename_i h2
   simpa using h2
mutual
theorem ZfO:∀ t:Tm,t.nodes=0→t.nb=true
 | .mk k nm s b kz, h => by
   rw [Tm.nodes] at h
   have h0:Yw k nm s kz.length=0:=by
    by_cases e:Yw k nm s kz.length=0
    · exact e
    · rw [if_pos e] at h;exact h
   rw [if_neg (by omega)] at h
   have:=Zjg (ZhM h0)
   rw [Tm.nb,decide_eq_true (by omega),Zch kz h];rfl
theorem Zch:∀ l:List Tm,Yd l=0→nbL l=true
 | [],_=>rfl
 | t :: r, h => by
   rw [Yd] at h
   have h0:t.nodes=0:=by
    by_cases e:t.nodes=0
    · exact e
    · rw [if_pos e] at h;exact h
   rw [if_neg (by omega)] at h
   rw [nbL,ZfO t h0,Zch r h];rfl
end
theorem Un (h:t.Fr):t.size≤400:=Yu h.v
theorem Znx (h:t.Fr):t.nb=true:=ZfO t (ZhK h.v)
theorem ZoH (h:t.Fr):t.rgt=0:=by
 unfold Tm.rgt
 have e:(if t.valid≠0 then t.valid else t.th)=0:=by rw [if_neg (by rw [h.v];simp),h.h]
 rw [if_neg (by rw [e];simp),if_neg (by rw [h.g];simp),if_neg (by rw [ZaM true h];simp)]
theorem ZgU:∀ {l:List Tm},(∀ t,t∈l→t.Fr)→Zlm l=0
 | [],_=>rfl
 | t :: r, h => by
   rw [Zlm,if_neg (by rw [ZoH (h t List.mem_cons_self)];simp)]
   exact ZgU fun t ht=>h t (List.mem_cons_of_mem _ ht)
structure GdM (m:Mo):Prop where
 ts:∀ t,t∈m.terms→t.Ok∧t.Fr
 tl:m.terms.length≤14
 al:m.agents.length≤8
theorem Zon (b:List Nat) {k c:Nat} (hn:n<4):GdM (mkM b k n c):=by
 have h1:∀ b,(Vh b n).Ok∧(Vh b n).Fr:=fun b=>⟨Zlk b n,Zor b (by omega)⟩
 have hm:∀ t,t∈XI b n (c % 4)→t.Ok∧t.Fr:=fun t ht=>by
  obtain ⟨j, -,rfl⟩:=List.mem_map.1 ht
  exact h1 _
 have hl:=W5 b n (c % 4)
 have h4:c % 4<4:=Nat.mod_lt _ (by omega)
 have ha:(agF c).length≤8:=by unfold agF;split<;>decide
 unfold mkM
 split
 · exact ⟨fun t ht=>(by cases ht),Nat.zero_le _,ha⟩
 split
 · exact ⟨fun t ht=>by rw [List.mem_singleton.1 ht];exact h1 _,by simp,Nat.zero_le _⟩
 split
 · exact ⟨fun t ht=>by rw [List.mem_singleton.1 ht];exact h1 _,by simp,Nat.zero_le _⟩
 split
 · exact ⟨hm,by simp only;omega,Nat.zero_le _⟩
 split
 · exact ⟨hm,by simp only;omega,Nat.zero_le _⟩
 split
 · exact ⟨fun t ht=>(by cases ht),Nat.zero_le _,by simp⟩
 · exact ⟨fun t ht=>(by cases ht),Nat.zero_le _,Nat.zero_le _⟩
theorem Zio:∀ (l:List (Bool×List Nat)) (o:List Mo),(∀ m,m∈o→GdM m)→(ZQ o).2=0→(∀ m,m∈l.foldl (fun o x=>Zfm o x.2) o→GdM m)∧(ZQ (l.foldl (fun o x=>Zfm o x.2) o)).2=0
 | [],o,h,h0=>⟨h,h0⟩
 | x :: r, o, h, h0 => by
   rw [List.foldl_cons]
   refine Zio r _ ?_ ?_
   · unfold Zfm
     split
     · intro m hm
       rcases List.mem_append.1 hm with hm|hm
       · exact h m hm
       · rw [List.mem_singleton.1 hm];exact Zon _ (Nat.mod_lt _ (by omega))
     · exact h
   · unfold Zfm
     split
     · rename_i h1;exact h1
     · exact h0
section
variable {f u:Int}
def Mo.ex (f u:Int) (m:Mo):Mo:=m.rn f u (rnP f u)
theorem Zhs (m:Mo):(m.ex f u).kind=m.kind:=rfl
theorem ZqW (m:Mo):(m.ex f u).hd=m.hd:=rfl
theorem QA (h:m.kind=6):(m.ex f u).num=m.num:=by
 show (if m.kind≠6 then _ else _)=_
 rw [if_neg (by omega)]
theorem Qp (h:¬ m.kind=6):(m.ex f u).num=Yb f u m.num:=if_pos h
theorem Zih (hf:0≤f∧f≤9) (hu:0≤u∧u≤9) (s:Bs):Z8 (nmP f u s)=Z8 s:=by rw [ZdH hf hu,Zja hf hu]
theorem ZnP (hf:0≤f∧f≤9) (hu:0≤u∧u≤9) (s:Bs):nmP f u (nmP f u s)=s:=by rw [ZdH hf hu,ZdH hf hu,ZmN hf hu]
theorem Zii (hf:0≤f∧f≤9) (hu:0≤u∧u≤9) (h:GdM m):GdM (m.ex f u) where
 ts t ht:=by
  obtain ⟨v,hv,rfl⟩:=List.mem_map.1 (show t∈m.terms.map (rnP f u) from ht)
  obtain ⟨h1,h2⟩:=h.ts v hv
  exact ⟨(Zqt (g:=nmP f u) (fun s hs=>Zdw hf hu hs) true ⟨h1,Znx h2,by have:=Un h2;omega⟩).1,ZoT (Zih hf hu) true h2⟩
 tl:=by show (m.terms.map (rnP f u)).length≤14;rw [List.length_map];exact h.tl
 al:=h.al
theorem ZpQ (hl:l.length≤420) (h:∀ m,m∈l→GdM m):TrOk l where
 len:=hl
 tl m hm:=(h m hm).tl
 ts m hm t ht:=by
  obtain ⟨h1,h2⟩:=(h m hm).ts t ht
  exact ⟨h1,Znx h2,by have:=Un h2;omega⟩
theorem Zj1 (hf:0≤f∧f≤9) (hu:0≤u∧u≤9) {n:Int} (h:0≤n∧n≤99):0≤Yb f u n∧Yb f u n≤99:=by
 unfold Yb
 split
 · omega
 split<;>omega
theorem ZjO (hf:0≤f∧f≤9) (hu:0≤u∧u≤9) (hg:GdM m) (h:m.alone=0):(m.ex f u).alone=0:=by
 have hF:ZbJ (m.ex f u)=ZbJ m:=by
  have e1:(m.ex f u).terms.length=m.terms.length:=by show (m.terms.map (rnP f u)).length=_;rw [List.length_map]
  have e2:(m.ex f u).agents=m.agents:=rfl
  have e3:(m.ex f u).role=m.role:=rfl
  have e4:(m.ex f u).goal=m.goal:=rfl
  unfold ZbJ
  rw [Zhs,e1,e2,e3,e4]
  by_cases h6:m.kind=6
  · rw [QA h6]
  · unfold Zal
    simp only [Bool.true_or,if_neg h6]
 unfold Mo.alone at h ⊢
 rw [hF]
 have r0:=ZgU fun t ht=>((Zii hf hu hg).ts t ht).2
 have ea:(m.ex f u).agents=m.agents:=rfl
 rw [r0,ea]
 split at h
 · cases h
 rename_i h1
 split at h
 · cases h
 rename_i h2
 split at h
 · cases h
 rename_i h3
 rw [if_neg h1,if_neg h3]
 have hr:ZoD (m.ex f u)=false:=by
  have h2:ZoD m=false:=by simpa using h2
  have e3:(m.ex f u).role=m.role:=rfl
  have e4:(m.ex f u).goal=m.goal:=rfl
  unfold ZoD at h2 ⊢
  simp only [Bool.or_eq_false_iff,decide_eq_false_iff_not,e3,e4] at h2 ⊢
  have hn:0≤(m.ex f u).num∧(m.ex f u).num≤99:=by
   by_cases h6:m.kind=6
   · rw [QA h6];omega
   · rw [Qp h6];exact Zj1 hf hu (by omega)
  exact ⟨by omega,by omega,h2.2.2⟩
 rw [hr]
 rfl
theorem ZlR (p:List Mo) (a:Bs):ZdN (p.map (Mo.ex f u)) a=ZdN p a:=by
 unfold ZdN
 rw [List.any_map]
 rfl
theorem ZhF (p:List Mo) (hk:k≠6) (n:Int):Zb2 (p.map (Mo.ex f u)) k (Yb f u n)=Zb2 p k n:=by
 unfold Zb2
 rw [List.any_map]
 congr 1
 funext x
 show (decide ((x.ex f u).num=Yb f u n)&&decide (x.kind=k))=_
 by_cases hx:x.kind=k
 · rw [Qp (by omega)]
   have:(Yb f u x.num=Yb f u n)↔(x.num=n):=⟨ZjV,fun h=>by rw [h]⟩
   simp only [this]
 · simp [hx]
theorem Znq (p:List Mo) (m:Mo):Wy (p.map (Mo.ex f u)) (m.ex f u) false false=Wy p m false false:=by
 rw [Zbv,Zbv,Zhs,ZqW,ZlR]
 by_cases h6:m.kind=6
 · rw [if_pos h6,if_pos h6]
 · rw [if_neg h6,if_neg h6,Qp h6,ZhF p (by decide),ZhF p (by decide)]
theorem ZkK (hf:0≤f∧f≤9) (hu:0≤u∧u≤9):∀ (l p:List Mo),(∀ m,m∈l→GdM m)→(Zgl p l).2=0→(Zgl (p.map (Mo.ex f u)) (l.map (Mo.ex f u))).2=0
 | [],p,_,_=>rfl
 | m :: r, p, hg, h => by
   rw [Zgl] at h
   rw [List.map_cons,Zgl]
   split at h
   · rename_i h1;exact absurd h h1
   rename_i h1
   split at h
   · rename_i h2;exact absurd h h2
   rename_i h2
   rw [if_neg (by rw [ZjO hf hu (hg m List.mem_cons_self) (Classical.not_not.1 h1)];simp),if_neg (by rw [Znq];exact h2)]
   have:=ZkK hf hu r (p++ [m]) (fun m hm=>hg m (List.mem_cons_of_mem _ hm)) h
   rwa [List.map_append] at this
theorem ZjK (hf:0≤f∧f≤9) (hu:0≤u∧u≤9) (hg:∀ m,m∈l→GdM m) (h:(ZQ l).2=0):(ZQ (l.map (Mo.ex f u))).2=0:=by
 rw [ZaU] at h ⊢
 unfold QY at h ⊢
 rw [List.length_map]
 split at h
 · cases h
 · rename_i h1
   rw [if_neg h1]
   exact ZkK hf hu l [] hg h
theorem ZpD (l:List Mo):ofF u (l.map (Mo.ex f u))=(ofF f l).map (Mo.ex f u):=by
 unfold ofF
 rw [List.filter_map]
 congr 1
 congr 1
 funext x
 show (decide (x.kind≠6)&&decide ((x.ex f u).num=u))=_
 by_cases h6:x.kind=6
 · simp [h6]
 · rw [Qp h6]
   have:Yb f u x.num=u↔x.num=f:=by
    unfold Yb
    split
    · rename_i h;simp [h]
    · rename_i h
      split
      · rename_i h2;simp [h];omega
      · rename_i h2;simp [h,h2]
   simp only [this]
end
def ixT:List (Bool×List Nat)→Nat→Int
 | [],_=> -1
 |x::r,i=>if 12<x.2.length then (i:Int) else ixT r (i+1)
theorem Zjd {l:List (Bool×List Nat)} {i:Nat} {x:Bool×List Nat} (h:l[i]? = some x):ixT (l.drop i) i=if 12<x.2.length then (i:Int) else ixT (l.drop (i+1)) (i+1):=by
 rw [ZC h];rfl
theorem Zg6:∀ (l:List (Bool×List Nat)) (i:Nat),¬ 0≤ixT l i→∀ x,x∈l→x.2.length≤12
 | [],_,_,x,hx=>by cases hx
 | y :: r, i, h, x, hx => by
   simp only [ixT] at h
   split at h
   · exact absurd (Int.natCast_nonneg i) h
   · rename_i h1
     rcases List.mem_cons.1 hx with rfl|hx
     · omega
     · exact Zg6 r (i+1) h x hx
end Go.Vm
namespace Go.Vm.Seat
variable {l:List Mo} {f u:Int}
open Go.Proofs
theorem c6 (x:Bool×List Nat):∀ H,CallOk E0 Tryz.prog 6 [slV x.1 1 (byC x.2)] H (.bool (decide (12<x.2.length))) H:=by
 have q:=Xw ((byC x.2).length:Int) 12
 rw [show decide (12<((byC x.2).length:Int))=decide (12<x.2.length) by rw [VA,decide_eq_decide];omega] at q
 generalize decide (12<x.2.length)=D at q ⊢
 generalize byC x.2=B at q ⊢
 refine Jw tOk fe6.ok rfl ?_
 repeat' first|refine Ji ?_|refine Jl ?_|refine Jt ?_|refine Jb ?_ ?_|refine Jo ?_|intro hb
 all_goals (subst hb;rfl)
theorem c16 {l:List (Bool×List Nat)} (hl:l.length≤1000000) (b:Bool):∀ H,CallOk E0 Tryz.prog 16 [slV b 1 (dlC l),.fn 6 []] H (.int .i64 (ixT l 0)) H:=by
 have hcl:=ZdS l
 refine Jw tOk fe16.ok rfl ?_
 repeat' first|refine Ji ?_|refine JJ ?_|refine Jl ?_|refine Jx ?_|refine Jt ?_|refine Jb ?_ ?_|(apply qT (ty:=0);rfl;rfl;rfl)|(apply qF (ty:=0);rfl;rfl;rfl)|refine Jz ?_ ?_|refine Jo ?_|intro hb
 refine Wp.while (fun m tm H => ∃ (i : Nat) (base : TM), i + m = l.length ∧ ixT l 0 = ixT (l.drop i) i ∧
   tm=ovr base [(0,slV b 1 (dlC l)),(1,.fn 6 []),(7,.int .i64 (l.length:Int)),(8,.int .i64 (i:Int))]∧H=hNil)
  (fun m tm H hI=>?_) l.length _ _ ⟨0,_,by omega,by rw [List.drop_zero],Zf ⟨rfl,rfl,Zd (by rw [hcl]),rfl,trivial⟩,rfl⟩
 obtain ⟨i,base,hi,hgo,rfl,rfl⟩:=hI
 rw [hgo]
 clear hgo
 have hlx:=Zt (i:Int) (l.length:Int)
 by_cases hlt:i<l.length
 · obtain ⟨x, hx⟩ : ∃ x, l[i]? = some x := ⟨l[i], by simp⟩
   rw [decide_eq_true (by omega)] at hlx
   have hj:=ZhS hx
   have hc:=c6 x
   rw [Zjd hx]
   by_cases h:12<x.2.length
   · rw [decide_eq_true h] at hc
     rw [if_pos h]
     repeat' first|refine Jc (hc _) ?_|refine Ji ?_|refine JJ ?_|refine Jl ?_|refine Jx ?_|refine Jt ?_|refine Jb ?_ ?_|(apply qT (ty:=0);rfl;rfl;rfl)|(apply qF (ty:=0);rfl;rfl;rfl)|refine Jz ?_ ?_|refine Jo ?_|intro hb
     all_goals rfl
   · rw [decide_eq_false h] at hc
     rw [if_neg h]
     repeat' first|refine Jc (hc _) ?_|refine Ji ?_|refine JJ ?_|refine Jl ?_|refine Jx ?_|refine Jt ?_|refine Jb ?_ ?_|(apply qT (ty:=0);rfl;rfl;rfl)|(apply qF (ty:=0);rfl;rfl;rfl)|refine Jz ?_ ?_|refine Jo ?_|intro hb
     exact LoopI.go (m-1) (by omega) ⟨i+1,_,by omega,rfl,Zf ⟨rfl,rfl,rfl,Zd (Zc (n:=i+1) (by omega)),trivial⟩,rfl⟩
 · have e : i = l.length := by omega
   subst e
   rw [decide_eq_false (by omega)] at hlx
   rw [List.drop_length]
   repeat' first|refine Ji ?_|refine JJ ?_|refine Jl ?_|refine Jx ?_|refine Jt ?_|refine Jb ?_ ?_|(apply qT (ty:=0);rfl;rfl;rfl)|(apply qF (ty:=0);rfl;rfl;rfl)|refine Jz ?_ ?_|refine Jo ?_|intro hb
   all_goals rfl
theorem c5 {l:List (Bool×List Nat)} (hl:l.length≤1000000) (b:Bool):∀ H,CallOk E0 Tryz.prog 5 [slV b 1 (dlC l),.fn 6 []] H (.bool (decide (0≤ixT l 0))) H:=by
 have hc:=c16 hl b
 have q:=UT (ixT l 0) 0
 generalize decide (0≤ixT l 0)=D at q ⊢
 generalize ixT l 0=z at hc q
 refine Jw tOk fe5.ok rfl ?_
 repeat' first|refine Jc (hc _) ?_|refine Ji ?_|refine Jt ?_|refine Jb ?_ ?_|refine Jo ?_|intro hb
 all_goals (subst hb;rfl)
theorem Zqs (hf:0≤f∧f≤9) (hu:0≤u∧u≤9) (hg:∀ m,m∈l→GdM m) (i:Nat) (x y:Mo) (hx:((l.map (Mo.ex f u)).map (Mo.ex f u))[i]? = some x) (hy:l[i]? = some y):MoP x y:=by
 rw [List.map_map,List.getElem?_map,hy] at hx
 cases hx
 have g:=hg y (List.mem_of_getElem? hy)
 have g2:=Zii hf hu (Zii hf hu g)
 refine ⟨⟨rfl,?_,rfl,rfl,rfl,?_⟩,fun t ht=>?_,fun t ht=>?_,?_,?_⟩
 · show ((y.ex f u).ex f u).num = y.num
   by_cases h6:y.kind=6
   · rw [QA (m:=y.ex f u) h6,QA h6]
   · rw [Qp (m:=y.ex f u) h6,Qp h6,Ua]
 · show ((y.terms.map (rnP f u)).map (rnP f u)).map Tm.cl = y.terms.map Tm.cl
   rw [List.map_map,List.map_map]
   exact List.map_congr_left fun t ht=>Zjr (Zih hf hu) (ZnP hf hu) true (g.ts t ht).2
 · have := g2.ts t ht
   exact ⟨this.1,by have:=Un this.2;omega⟩
 · have := g.ts t ht
   exact ⟨this.1,by have:=Un this.2;omega⟩
 · have:=g2.tl;show ((y.ex f u).ex f u).terms.length≤1000;omega
 · have:=g2.al;show ((y.ex f u).ex f u).agents.length≤1000;omega
theorem Zmn (hg:∀ m,m∈l→GdM m) (i:Nat) (x y:Mo) (hx:l[i]? = some x) (hy:l[i]? = some y):MoP x y:=by
 rw [hx] at hy
 cases hy
 have g:=hg x (List.mem_of_getElem? hx)
 have ht:∀ t,t∈x.terms→t.Ok∧t.size≤200000:=fun t ht=>by
  have:=g.ts t ht
  exact ⟨this.1,by have:=Un this.2;omega⟩
 exact ⟨⟨rfl,rfl,rfl,rfl,rfl,rfl⟩,ht,ht,by have:=g.tl;omega,by have:=g.al;omega⟩
theorem ZoB (hf:0≤f∧f≤9) (hu:0≤u∧u≤9) (hg:∀ m,m∈l→GdM m):∀ m,m∈l.map (Mo.ex f u)→GdM m:=fun m hm=>by
 obtain ⟨x,hx,rfl⟩:=List.mem_map.1 hm
 exact Zii hf hu (hg x hx)
theorem ZgW (hf:0≤f∧f≤9) (hu:0≤u∧u≤9) (hl:l.length≤420) (hg:∀ m,m∈l→GdM m) (b:Bool):∀ H,CallOk E0 Tryz.prog 8 [slV b 6 (moC l),.int .i64 f,.int .i64 u] H (slV b 6 (moC (l.map (Mo.ex f u)))) H:=by
 have h:=c8 (ZpQ hl hg) f u b
 unfold Zp9 at h
 rw [if_neg (by omega)] at h
 exact h
theorem c3 (awakeOk : ∀ H, CallOk E0 Tryz.prog 4 [] H (.bool true) H) {d : List (Bool × List Nat)} (hd : ∀ x, x ∈ d → ∀ y, y ∈ x.2 → y < 256) (b : Bool) (p q : Nat) :
  ∀ H,CallOk E0 Tryz.prog 3 [slV b 1 (dlC d),.int .u8 (p:Int),.int .u8 (q:Int)] H (.bool true) H:=by
 have hcl:=ZdS d
 have q1:=Xw ((dlC d).length:Int) 40
 refine Jw tOk fe3.ok rfl ?_
 by_cases h1:40<d.length
 · rw [decide_eq_true (by omega)] at q1
   repeat' first|refine Jk ?_|refine Jc (awakeOk _) ?_|refine Ji ?_|(apply qCv;rfl;rfl;rfl;assumption;exact IsV.any _)|refine Jl ?_|refine Jt ?_|refine Jb ?_ ?_|refine Jo ?_|intro hb
   all_goals rfl
 rw [decide_eq_false (by omega)] at q1
 have hC:=c5 (l:=d) (by omega) b
 by_cases h2:0≤ixT d 0
 · rw [decide_eq_true h2] at hC
   repeat' first|refine Jk ?_|refine Jc (awakeOk _) ?_|refine Jc (hC _) ?_|refine Ji ?_|(apply qCv;rfl;rfl;rfl;assumption;exact IsV.any _)|refine Jl ?_|refine Jt ?_|refine Jb ?_ ?_|refine Jo ?_|intro hb
   all_goals rfl
 rw [decide_eq_false h2] at hC
 have h12:=Zg6 d 0 h2
 have kM:=c7 (l:=d) (by omega) (fun x hx=>⟨h12 x hx,hd x hx⟩) b
 obtain ⟨hgd,hv⟩:=Zio d [] (fun m hm=>by cases hm) rfl
 obtain ⟨hsm,hln⟩:=ZbR d [] (fun m hm=>by cases hm)
 have eM:d.foldl (fun o x=>Zfm o x.2) []=ZbA d:=rfl
 rw [eM] at hgd hv hsm hln
 rw [List.length_nil] at hln
 generalize ZbA d=L at kM hgd hv hsm hln
 have r1:=ZdM p 10 (by omega)
 have r2:=ZdM q 10 (by omega)
 have v1:=Za9 (p % 10) (by omega)
 have v2:=Za9 (q % 10) (by omega)
 have hf:0≤((p % 10:Nat):Int)∧((p % 10:Nat):Int)≤9:=by omega
 have hu:0≤((q % 10:Nat):Int)∧((q % 10:Nat):Int)≤9:=by omega
 generalize ((p % 10:Nat):Int)=f at r1 v1 hf
 generalize ((q % 10:Nat):Int)=u at r2 v2 hu
 have hL:L.length≤40:=by omega
 have k1:=c9 (l:=L) (by omega) true
 have k2:=ZgW hf hu (l:=L) (by omega) hgd true
 have g2:=ZoB hf hu hgd
 have l2:(L.map (Mo.ex f u)).length=L.length:=List.length_map ..
 have t2:TrS (L.map (Mo.ex f u)):=⟨by omega,fun m hm=>by
  obtain ⟨x,hx,rfl⟩:=List.mem_map.1 hm
  have hs:=hsm x hx
  have g:=Zii hf hu (hgd x hx)
  obtain ⟨h1,h2,h3,h4⟩:=hs
  refine ⟨⟨h1.kind,?_,h1.role,h1.goal,h1.al,h1.ags,?_,fun t ht=>(g.ts t ht).1⟩,h2,?_,fun t ht=>⟨(g.ts t ht).1,by have:=Un (g.ts t ht).2;omega⟩⟩
  · by_cases h6 : x.kind = 6
    · rw [QA h6];exact h1.num
    · rw [Qp h6]
      unfold Yb
      have:∀ z:Int,0≤z∧z≤9→(Lit.int .i64 z).wf=true:=fun z hz=>by
       have:z=0∨z=1∨z=2∨z=3∨z=4∨z=5∨z=6∨z=7∨z=8∨z=9:=by omega
       rcases this with rfl|rfl|rfl|rfl|rfl|rfl|rfl|rfl|rfl|rfl<;>decide
      split
      · exact this _ hu
      split
      · exact this _ hf
      · exact h1.num
  · have:=g.tl;unfold maxLen;omega
  · have:=g.tl;omega⟩
 have k3:=c10 t2 true
 rw [ZjK hf hu hgd hv] at k3
 have k4:=ZgW hf hu (l:=L.map (Mo.ex f u)) (by omega) g2 true
 have k5:=ZnA (A:=(L.map (Mo.ex f u)).map (Mo.ex f u)) (B:=L) (by rw [List.length_map];omega) (by rw [List.length_map,l2]) (Zqs hf hu hgd) true true
 have k6:=c12 (l:=L.map (Mo.ex f u)) (by omega) u true
 have k7:=c12 (l:=L) (by omega) f true
 have gO:∀ m,m∈ofF f L→GdM m:=fun m hm=>hgd m ((List.mem_filter.1 hm).1)
 have lO:(ofF f L).length≤420:=by
  have:(ofF f L).length≤L.length:=List.length_filter_le _ _
  omega
 have k8:=ZgW hf hu (l:=ofF f L) lO gO true
 rw [← ZpD] at k8
 have k9:=ZnA (A:=ofF u (L.map (Mo.ex f u))) (B:=ofF u (L.map (Mo.ex f u))) (by
  have:(ofF u (L.map (Mo.ex f u))).length≤(L.map (Mo.ex f u)).length:=List.length_filter_le _ _
  omega) rfl (Zmn fun m hm=>g2 m ((List.mem_filter.1 hm).1)) true true
 clear hgd hv hsm hln g2 l2 t2 gO lO h12 hd
 generalize moC (ofF u (L.map (Mo.ex f u)))=M5 at k6 k8 k9
 generalize moC (ofF f L)=M4 at k7 k8
 generalize moC ((L.map (Mo.ex f u)).map (Mo.ex f u))=M3 at k4 k5
 generalize moC (L.map (Mo.ex f u))=M2 at k2 k3 k4 k6
 generalize moC L=M1 at kM k1 k2 k5 k7
 repeat' first|refine Jk ?_|(apply qCl;rfl;rfl;rfl;rfl;first|exact awakeOk _|exact hC _|exact kM _|exact k1 _|exact k2 _|exact k3 _|exact k4 _|exact k5 _|exact k6 _|exact k7 _|exact k8 _|exact k9 _)|refine Ji ?_|(apply qCv;rfl;rfl;rfl;assumption;exact IsV.any _)|refine Jl ?_|refine Jt ?_|refine Jb ?_ ?_|refine Jo ?_|intro hb
 all_goals rfl
