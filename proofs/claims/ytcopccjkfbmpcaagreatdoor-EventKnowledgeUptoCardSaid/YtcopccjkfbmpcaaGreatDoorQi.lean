/-
  Casts: names in lists, agents and their keys, valid casts; both texts.
-/
import Derived.Test.YtcopccjkfbmpcaaGreatDoorQh
set_option maxHeartbeats 0
set_option maxRecDepth 100000
namespace Go.Vm
variable {v:Bs} {l:List Bs} {i:Nat}
def Uy (s:Bs):Bool:=s.any fun c=>c==35
def ixS (v:Bs):List Bs→Nat→Int
 | [],_=> -1
 |x::r,i=>if v=x then (i:Int) else ixS v r (i+1)
theorem Zg5 (v:Bs):∀ (l:List Bs) (i:Nat),0≤ixS v l i↔v∈l
 | [],i=>by simp [ixS]
 | x :: r, i => by
   simp only [ixS,List.mem_cons]
   split
   · rename_i h;simp [h]
   · rename_i h;simp only [Zg5 v r (i+1),h,false_or]
theorem ZeQ {x:Bs} (h:l[i]? = some x):ixS v (l.drop i) i=if v=x then (i:Int) else ixS v (l.drop (i+1)) (i+1):=by
 rw [Zu h];rfl
def Xt (v:Bs) (l:List Bs):Bool:=decide (0≤ixS v l 0)
theorem Zj1:Xt v l=true↔v∈l:=by unfold Xt;rw [decide_eq_true_eq,Zg5]
structure Ca where
 an:Bool
 ag:List Bs
 bn:Bool
 bad:List Bs
def Ca.cells (c:Ca):List PV:=[slV c.an 1 (Zp c.ag),slV c.bn 1 (Zp c.bad)]
structure Ca.Sm (c:Ca):Prop where
 la:c.ag.length≤100
 lb:c.bad.length≤100
 na:∀ s,s∈c.ag→s.length≤1000
 nb:∀ s,s∈c.bad→s.length≤1000
def agE:List Bs→List Bs→Int
 |_,[]=>0
 |p,a::r=>if (!XA a||Uy a)=true then 2 else if Xt a p=true then 5 else agE (p++ [a]) r
theorem Zfa {p:List Bs} {a:Bs} (h:l[i]? = some a):agE p (l.drop i)=if (!XA a||Uy a)=true then 2 else if Xt a p=true then 5 else agE (p++ [a]) (l.drop (i+1)):=by
 rw [Zu h];rfl
def bdE (ag:List Bs):List Bs→Int→Int
 | [],_=>0
 |b::r,last=>if ixS b ag 0<0 then 4 else if ixS b ag 0≤last then 5 else bdE ag r (ixS b ag 0)
theorem ZfO {ag:List Bs} {b:Bs} {last:Int} (h:l[i]? = some b):bdE ag (l.drop i) last=if ixS b ag 0<0 then 4 else if ixS b ag 0≤last then 5 else bdE ag (l.drop (i+1)) (ixS b ag 0):=by
 rw [Zu h];rfl
def Ca.err (c:Ca):Int:=if c.ag.length=0 then 8 else if 6<c.ag.length then 3 else if agE [] c.ag≠0 then agE [] c.ag else bdE c.ag c.bad (-1)
def agT (a:Bs):Tm:= .mk 2 a 1 true []
def skN:Bs:=[115,107]
def shN:Bs:=[115,104,107]
def prT (a:Bs):Tm:= .mk 3 skN 0 true [agT a]
def puT (a:Bs):Tm:= .mk 3 pkN 0 true [prT a]
def shT (a b:Bs):Tm:= .mk 3 shN 0 true [agT a,agT b]
theorem Us (a:Bs):(agT a).cells= [.int .i64 2,.str a,.int .i64 1,.nils]:=by simp only [agT,Tm.cells,Za,Zh]
theorem ZgX (a:Bs):(agT a).valid=if XA a=true then 0 else 2:=by
 unfold Tm.valid
 simp only [agT,Tm.nodes,YR,XR,Tm.size,Zl,Tm.depth,YF,List.length_nil]
 cases XA a<;>simp
theorem Zgt {b:UInt8} (h:b.toNat=35):b=35:=UInt8.toNat_inj.1 h
theorem Znr:∀ (s:Bs) (k:Nat),decide (0≤Zbd s 35 k)=Uy s
 | [],k=>by simp [Zbd,Uy]
 | b :: r, k => by
   have ih:=Znr r (k+1)
   unfold Uy at ih ⊢
   rw [List.any_cons]
   by_cases h:(b.toNat:Int)=35
   · have hb : b = 35 := Zgt (by omega)
     have e:Zbd (b::r) 35 k=(k:Int):=by simp only [Zbd,if_pos h]
     rw [e,hb]
     simp
   · have hb : (b == 35) = false := by
       simp only [beq_eq_false_iff_ne]
       intro e
       subst e
       exact h rfl
     have e:Zbd (b::r) 35 k=Zbd r 35 (k+1):=by simp only [Zbd,if_neg h]
     rw [e,hb,Bool.false_or]
     exact ih
theorem Zgc {s:Bs} {c:UInt8} (h:s[i]? = some c):Uy (s.drop i)=(c==35||Uy (s.drop (i+1))):=by
 unfold Uy
 rw [Zu h,List.any_cons]
end Go.Vm
namespace Go.Vm.Seat
variable {l:List Bs}
open Go.Proofs
theorem Znz (s:Bs) (H:Heap):CallOk E0 Tryz.prog 170 [.str s,.int .u8 35] H (.int .i64 (Zbd s 35 0)) H:=(ZqF [.str s,.int .u8 35] H _ _ rfl).1
theorem ZoZ (s:Bs):∀ H,CallOk E0 Tryz.prog 144 [.str s,.int .u8 35] H (.int .i64 (Zbd s 35 0)) H:=by
 refine Jw tOk fe144.ok rfl ?_
 repeat' first|refine Jc (Znz s _) ?_|refine Jo ?_|fail
 all_goals rfl
theorem ZsN (s:Bs):∀ H,CallOk E0 Tryz.prog 118 [.str s,.str [35]] H (.int .i64 (Zbd s 35 0)) H:=by
 refine Jw tOk fe118.ok rfl ?_
 repeat' first|refine Jc (ZoZ _ _) ?_|refine Jt ?_|refine Jb ?_ ?_|refine Jo ?_|intro hb
 · simp at hb
   subst hb
   rfl
 · rfl
theorem Zp2 (s:Bs):∀ H,CallOk E0 Tryz.prog 77 [.str s,.str [35]] H (.int .i64 (Zbd s 35 0)) H:=by
 refine Jw tOk fe77.ok rfl ?_
 repeat' first|refine Jc (ZsN _ _) ?_|refine Jo ?_|fail
 all_goals rfl
theorem c48 (s:Bs):∀ H,CallOk E0 Tryz.prog 48 [.str s,.str [35]] H (.bool (Uy s)) H:=by
 have hc:=Zp2 s
 rw [← Znr s 0]
 have hg:=Xd (Zbd s 35 0) 0
 have e:((0:Nat):Int)=0:=rfl
 clear e
 generalize decide (0≤Zbd s 35 0)=D at hg ⊢
 generalize Zbd s 35 0=I at hc hg
 refine Jw tOk fe48.ok rfl ?_
 repeat' first|refine Jc (hc _) ?_|refine Ji ?_|refine Jt ?_|refine Jo ?_|fail
 all_goals rfl
theorem Zpb (a b:Int):X7 E0 .eql 5 (.int .u8 a) (.int .u8 b)=some (.bool (decide (a=b))):=by
 show some (PV.bool (a==b))=_
 by_cases h:a=b<;>simp [h]
theorem c60 {s:Bs} (hs:s.length≤1000):∀ H,CallOk E0 Tryz.prog 60 [.str s] H (.bool (Uy s)) H:=by
 refine Jw tOk fe60.ok rfl ?_
 repeat' first|refine Jt ?_|refine Jo ?_|fail
 refine Wp.while (fun m tm H=>∃ (i:Nat) (base:TM),i+m=s.length∧Uy s=Uy (s.drop i)∧tm=ovr base [(0,.str s),(3,.int .i64 (i:Int))]∧H=⟨[],0,[],0⟩)
  (fun m tm H hI=>?_) s.length _ _ ⟨0,_,by omega,by simp,Zf ⟨rfl,rfl,trivial⟩,rfl⟩
 obtain ⟨i,base,hi,hgo,rfl,rfl⟩:=hI
 rw [hgo]
 by_cases hlt:i<s.length
 · obtain ⟨c, hc⟩ : ∃ c, s[i]? = some c := ⟨s[i], by simp⟩
   have hx:=Zn3 hc
   have hlx:=Zr (i:Int) (s.length:Int)
   rw [decide_eq_true (by omega)] at hlx
   rw [Zgc hc]
   have he:=Zpb (c.toNat:Int) 35
   have e2:decide ((c.toNat:Int)=35)=(c==35):=by
    by_cases h:c=35
    · subst h;rfl
    · rw [decide_eq_false fun e => h (Zgt (by omega))]
      simp [h]
   rw [e2] at he
   generalize (c==35)=D at he ⊢
   cases D
   · rw [Bool.false_or]
     repeat' first|refine JX ?_|refine Ji ?_|refine Jo ?_|fail
     exact LoopI.go (m-1) (by omega) ⟨i+1,_,by omega,rfl,Zf ⟨rfl,Ze (Zd (n:=i+1) (by omega)),trivial⟩,rfl⟩
   · rw [Bool.true_or]
     repeat' first|refine JX ?_|refine Ji ?_|refine Jt ?_|refine Jo ?_|fail
     all_goals rfl
 · have e : i = s.length := by omega
   subst e
   have hlx:=Zr (s.length:Int) (s.length:Int)
   rw [decide_eq_false (by omega)] at hlx
   rw [List.drop_length]
   repeat' first|refine Ji ?_|refine Jt ?_|refine Jo ?_|fail
   all_goals rfl
theorem c50 (hl : l.length ≤ 1000) (v : Bs) (b : Bool) :
  ∀ H,CallOk E0 Tryz.prog 50 [slV b 1 (Zp l),.str v] H (.int .i64 (ixS v l 0)) H:=by
 have hsl:=Zw l
 refine Jw tOk fe50.ok rfl ?_
 repeat' first|refine Jl ?_|refine Jo ?_|fail
 refine Wp.while (fun m tm H => ∃ (i : Nat) (base : TM), i + m = l.length ∧ ixS v l 0 = ixS v (l.drop i) i ∧
   tm=ovr base [(0,slV b 1 (Zp l)),(1,.str v),(7,.int .i64 (l.length:Int)),(8,.int .i64 (i:Int))]∧H=hNil)
  (fun m tm H hI=>?_) l.length _ _ ⟨0,_,by omega,by simp,Zf ⟨rfl,rfl,Ze (by rw [hsl]),rfl,trivial⟩,rfl⟩
 obtain ⟨i,base,hi,hx,rfl,rfl⟩:=hI
 rw [hx]
 by_cases hlt:i<l.length
 · obtain ⟨x, hk⟩ : ∃ x, l[i]? = some x := ⟨l[i], by simp⟩
   have hj:=ZW hk
   have hlx:=Zr (i:Int) (l.length:Int)
   rw [decide_eq_true (by omega)] at hlx
   have he:=Zhv v x
   rw [ZeQ hk]
   by_cases c:v=x
   · rw [decide_eq_true c] at he
     rw [if_pos c]
     repeat' first|refine Ji ?_|refine Jx ?_|refine Jo ?_|fail
     all_goals rfl
   · rw [decide_eq_false c] at he
     rw [if_neg c]
     repeat' first|refine Ji ?_|refine Jx ?_|refine Jo ?_|fail
     exact LoopI.go (m-1) (by omega) ⟨i+1,_,by omega,rfl,Zf ⟨rfl,rfl,rfl,Ze (Zd (n:=i+1) (by omega)),trivial⟩,rfl⟩
 · have e : i = l.length := by omega
   subst e
   have hlx:=Zr (l.length:Int) (l.length:Int)
   rw [decide_eq_false (by omega)] at hlx
   rw [List.drop_length]
   repeat' first|refine Ji ?_|refine Jo ?_|fail
   all_goals rfl
theorem c49 (hl : l.length ≤ 1000) (v : Bs) (b : Bool) :
  ∀ H,CallOk E0 Tryz.prog 49 [slV b 1 (Zp l),.str v] H (.bool (Xt v l)) H:=by
 have hc:=c50 hl v b
 unfold Xt
 have hg:=Xd (ixS v l 0) 0
 generalize ixS v l 0=I at hc hg ⊢
 generalize decide (0≤I)=D at hg ⊢
 refine Jw tOk fe49.ok rfl ?_
 repeat' first|refine Jc (hc _) ?_|refine Ji ?_|refine Jt ?_|refine Jo ?_|fail
 all_goals rfl
theorem c61 (hl : l.length ≤ 1000) (v : Bs) (b : Bool) :
  ∀ H,CallOk E0 Tryz.prog 61 [slV b 1 (Zp l),.str v] H (.int .i64 (ixS v l 0)) H:=by
 have hsl:=Zw l
 refine Jw tOk fe61.ok rfl ?_
 repeat' first|refine Jo ?_|fail
 refine Wp.while (fun m tm H => ∃ (i : Nat) (base : TM), i + m = l.length ∧ ixS v l 0 = ixS v (l.drop i) i ∧
   tm=ovr base [(0,slV b 1 (Zp l)),(1,.str v),(5,.int .i64 (i:Int))]∧H=hNil)
  (fun m tm H hI=>?_) l.length _ _ ⟨0,_,by omega,by simp,Zf ⟨rfl,rfl,rfl,trivial⟩,rfl⟩
 obtain ⟨i,base,hi,hx,rfl,rfl⟩:=hI
 rw [hx]
 by_cases hlt:i<l.length
 · obtain ⟨x, hk⟩ : ∃ x, l[i]? = some x := ⟨l[i], by simp⟩
   have hj:=ZW hk
   have hlx:=Zr (i:Int) ((Zp l).length:Int)
   rw [decide_eq_true (by omega)] at hlx
   have he:=Zhv x v
   rw [ZeQ hk]
   by_cases c:v=x
   · rw [decide_eq_true c.symm] at he
     rw [if_pos c]
     repeat' first|refine Ji ?_|refine Jl ?_|refine Jx ?_|refine Jo ?_|fail
     all_goals rfl
   · rw [decide_eq_false fun h => c h.symm] at he
     rw [if_neg c]
     repeat' first|refine Ji ?_|refine Jl ?_|refine Jx ?_|refine Jo ?_|fail
     exact LoopI.go (m-1) (by omega) ⟨i+1,_,by omega,rfl,Zf ⟨rfl,rfl,Ze (Zd (n:=i+1) (by omega)),trivial⟩,rfl⟩
 · have e : i = l.length := by omega
   subst e
   have hlx:=Zr (l.length:Int) ((Zp l).length:Int)
   rw [decide_eq_false (by omega)] at hlx
   rw [List.drop_length]
   repeat' first|refine Ji ?_|refine Jl ?_|refine Jo ?_|fail
   all_goals rfl
theorem c47 (a:Bs):∀ H,CallOk E0 Tryz.prog 47 [.str a] H (.agg (agT a).cells) H:=by
 rw [Us]
 refine Jw tOk fe47.ok rfl ?_
 repeat' first|refine Jo ?_|fail
 all_goals rfl
theorem ZpQ (a:Bs):∀ H,CallOk E0 Tryz.prog 130 [.str a] H (.agg (agT a).cells) H:=by
 have h:∀ H,CallOk E0 Tryz.prog 20 [.str a,.int .i64 1] H (.agg (agT a).cells) H:=by
  rw [Us]
  refine Jw tOk fe20.ok rfl ?_
  repeat' first|refine Jo ?_|fail
  all_goals rfl
 rw [Us] at h ⊢
 refine Jw tOk fe130.ok rfl ?_
 repeat' first|refine Jc (h _) ?_|refine Jo ?_|fail
 all_goals rfl
theorem Zqk (nm:Bs) (l:List Tm) (b:Bool):∀ H,CallOk E0 Tryz.prog 119 [.str nm,slV b 4 (Za l)] H (.agg (Tm.mk 3 nm 0 b l).cells) H:=by
 simp only [Tm.cells]
 rcases W9 b (Za l) with e|⟨el,e⟩
 all_goals
  rw [e]
  refine Jw tOk fe119.ok rfl ?_
  repeat' first|refine Jo ?_|fail
  rfl
theorem ZnP (nm:Bs) (x:Tm):∀ H,CallOk E0 Tryz.prog 119 [.str nm,.sl .full 4 [x.cells]] H (.agg (Tm.mk 3 nm 0 true [x]).cells) H:=fun H=>by
 have:=Zqk nm [x] true H
 simp only [Tm.cells,Za,Zm] at this ⊢
 exact ZS this rfl
theorem Zpi (nm:Bs) (x y:Tm):∀ H,CallOk E0 Tryz.prog 119 [.str nm,.sl .full 4 [x.cells,y.cells]] H (.agg (Tm.mk 3 nm 0 true [x,y]).cells) H:=fun H=>by
 have:=Zqk nm [x,y] true H
 obtain ⟨k,nm1,s,b,kz⟩:=x
 obtain ⟨k2,nm2,s2,b2,kz2⟩:=y
 simp only [Tm.cells,Za,Zm] at this ⊢
 exact ZS this (by simp only [Zz,frzG,frz1])
theorem Zpl (nm:Bs) (x y:Tm):∀ H,CallOk E0 Tryz.prog 129 [.str nm,.sl .full 4 [x.cells,y.cells]] H (.agg (Tm.mk 3 nm 0 true [x,y]).cells) H:=fun H=>by
 have:=ZkB nm (l:=[x,y]) (by simp) true H
 obtain ⟨k,nm1,s,b,kz⟩:=x
 obtain ⟨k2,nm2,s2,b2,kz2⟩:=y
 simp only [Tm.cells,Za,Zm] at this ⊢
 exact ZS this (by simp only [Zz,frzG,frz1])
theorem c80 (a:Bs):∀ H,CallOk E0 Tryz.prog 80 [.str a] H (.agg (prT a).cells) H:=by
 have h1:=c47 a
 have h2:=ZnP skN (agT a)
 have e:(prT a).cells=(Tm.mk 3 skN 0 true [agT a]).cells:=rfl
 rw [e]
 have hf:frz3 0 ⟨[.cells 4 [(Tm.mk 3 skN 0 true [agT a]).cells]],0,[],0⟩ (.agg (Tm.mk 3 skN 0 true [agT a]).cells)=some (.agg (Tm.mk 3 skN 0 true [agT a]).cells):=ZV _ _ _ _ _ _ _
 generalize agT a=T at h1 h2 hf ⊢
 obtain ⟨k,nm,s,b,kz⟩:=T
 simp only [Tm.cells,Za,Zm] at h1 h2 hf ⊢
 refine Jw tOk fe80.ok hf ?_
 repeat' first|refine Jc (h1 _) ?_|refine Jc (h2 _) ?_|refine Js ?_|refine Jo ?_|fail
 exact hf
theorem c78 (a:Bs):∀ H,CallOk E0 Tryz.prog 78 [.str a] H (.agg (puT a).cells) H:=by
 have h1:=c80 a
 have h2:=ZnP pkN (prT a)
 have e:(puT a).cells=(Tm.mk 3 pkN 0 true [prT a]).cells:=rfl
 rw [e]
 have hf:frz3 0 ⟨[.cells 4 [(Tm.mk 3 pkN 0 true [prT a]).cells]],0,[],0⟩ (.agg (Tm.mk 3 pkN 0 true [prT a]).cells)=some (.agg (Tm.mk 3 pkN 0 true [prT a]).cells):=ZV _ _ _ _ _ _ _
 generalize prT a=T at h1 h2 hf ⊢
 obtain ⟨k,nm,s,b,kz⟩:=T
 simp only [Tm.cells,Za,Zm] at h1 h2 hf ⊢
 refine Jw tOk fe78.ok hf ?_
 repeat' first|refine Jc (h1 _) ?_|refine Jc (h2 _) ?_|refine Js ?_|refine Jo ?_|fail
 exact hf
theorem c98 (a:Bs):∀ H,CallOk E0 Tryz.prog 98 [.str a] H (.agg (prT a).cells) H:=by
 have h1:=ZpQ a
 have h2:=Zh1 skN (agT a)
 have e:(prT a).cells=(Tm.mk 3 skN 0 true [agT a]).cells:=rfl
 rw [e]
 have hf:frz3 0 ⟨[.cells 4 [(Tm.mk 3 skN 0 true [agT a]).cells]],0,[],0⟩ (.agg (Tm.mk 3 skN 0 true [agT a]).cells)=some (.agg (Tm.mk 3 skN 0 true [agT a]).cells):=ZV _ _ _ _ _ _ _
 generalize agT a=T at h1 h2 hf ⊢
 obtain ⟨k,nm,s,b,kz⟩:=T
 simp only [Tm.cells,Za,Zm] at h1 h2 hf ⊢
 refine Jw tOk fe98.ok hf ?_
 repeat' first|refine Jc (h1 _) ?_|refine Jc (h2 _) ?_|refine Js ?_|refine Jo ?_|fail
 exact hf
theorem c97 (a:Bs):∀ H,CallOk E0 Tryz.prog 97 [.str a] H (.agg (puT a).cells) H:=by
 have h1:=c98 a
 have h2:=Zh1 pkN (prT a)
 have e:(puT a).cells=(Tm.mk 3 pkN 0 true [prT a]).cells:=rfl
 rw [e]
 have hf:frz3 0 ⟨[.cells 4 [(Tm.mk 3 pkN 0 true [prT a]).cells]],0,[],0⟩ (.agg (Tm.mk 3 pkN 0 true [prT a]).cells)=some (.agg (Tm.mk 3 pkN 0 true [prT a]).cells):=ZV _ _ _ _ _ _ _
 generalize prT a=T at h1 h2 hf ⊢
 obtain ⟨k,nm,s,b,kz⟩:=T
 simp only [Tm.cells,Za,Zm] at h1 h2 hf ⊢
 refine Jw tOk fe97.ok hf ?_
 repeat' first|refine Jc (h1 _) ?_|refine Jc (h2 _) ?_|refine Js ?_|refine Jo ?_|fail
 exact hf
theorem c81 (a b:Bs):∀ H,CallOk E0 Tryz.prog 81 [.str a,.str b] H (.agg (shT a b).cells) H:=by
 have h1:=c47 a
 have h3:=c47 b
 have h2:=Zpi shN (agT a) (agT b)
 have e:(shT a b).cells=(Tm.mk 3 shN 0 true [agT a,agT b]).cells:=rfl
 rw [e]
 have hf:∀ H,frz3 0 H (.agg (Tm.mk 3 shN 0 true [agT a,agT b]).cells)=some (.agg (Tm.mk 3 shN 0 true [agT a,agT b]).cells):=fun H=>ZV _ H _ _ _ _ _
 generalize agT a=T at h1 h2 hf ⊢
 generalize agT b=U at h3 h2 hf ⊢
 obtain ⟨k,nm,s,b,kz⟩:=T
 obtain ⟨k2,nm2,s2,b2,kz2⟩:=U
 simp only [Tm.cells,Za,Zm] at h1 h2 h3 hf ⊢
 refine Jw tOk fe81.ok (hf _) ?_
 repeat' first|(apply qCl;rfl;rfl;rfl;rfl;first|exact h1 _|exact h3 _|exact h2 _)|refine Js ?_|refine Jo ?_|fail
 exact hf _
theorem c99 (a b:Bs):∀ H,CallOk E0 Tryz.prog 99 [.str a,.str b] H (.agg (shT a b).cells) H:=by
 have h1:=ZpQ a
 have h3:=ZpQ b
 have h2:=Zpl shN (agT a) (agT b)
 have e:(shT a b).cells=(Tm.mk 3 shN 0 true [agT a,agT b]).cells:=rfl
 rw [e]
 have hf:∀ H,frz3 0 H (.agg (Tm.mk 3 shN 0 true [agT a,agT b]).cells)=some (.agg (Tm.mk 3 shN 0 true [agT a,agT b]).cells):=fun H=>ZV _ H _ _ _ _ _
 generalize agT a=T at h1 h2 hf ⊢
 generalize agT b=U at h3 h2 hf ⊢
 obtain ⟨k,nm,s,b,kz⟩:=T
 obtain ⟨k2,nm2,s2,b2,kz2⟩:=U
 simp only [Tm.cells,Za,Zm] at h1 h2 h3 hf ⊢
 refine Jw tOk fe99.ok (hf _) ?_
 repeat' first|(apply qCl;rfl;rfl;rfl;rfl;first|exact h1 _|exact h3 _|exact h2 _)|refine Js ?_|refine Jo ?_|fail
 exact hf _
