/-
  Roles and keys of roles: the program's text (scope), where the table's map lies 
-/
import Derived.Test.YtgnklbkmfeafaaaGreatDoorTd
set_option maxHeartbeats 0
set_option maxRecDepth 100000
namespace Go.Vm
theorem ZfL:∀ (s:Zg) (i:Nat),decide (0≤Zcf s 35 i)=s.contains 35
 | [],i=>rfl
 | c :: r, i => by
   by_cases h:(c.toNat:Int)=35
   · have e : Zcf (c :: r) 35 i = (i : Int) := if_pos h
     have hc:c=35:=UInt8.toNat_inj.1 (show c.toNat=35 by omega)
     rw [e,hc]
     simp
   · have e : Zcf (c :: r) 35 i = Zcf r 35 (i + 1) := if_neg h
     have hc:¬ (35:UInt8)=c:=by rintro rfl;exact h rfl
     have:=ZfL r (i+1)
     rw [e,this,List.contains_cons]
     simp [hc]
def isB (v x:Zg):Bool:=decide (v=x)
theorem ZgH (l:List Zg) (v:Zg):l.any (isB v)=ZU l v:=by
 unfold ZU
 congr 1
 funext x
 simp only [isB]
 exact decide_eq_decide.2 ⟨Eq.symm,Eq.symm⟩
end Go.Vm
namespace Go.Vm.Seat
variable {l:List Zg}
open Go.Proofs
theorem Zkj (s:Zg) (H:Heap):CallOk E0 Tryz.prog 175 [.str s,.int .u8 35] H (.int .i64 (Zcf s 35 0)) H:=(Zjv [.str s,.int .u8 35] H _ _ rfl).1
theorem ZhL (s:Zg):∀ H,CallOk E0 Tryz.prog 164 [.str s,.int .u8 35] H (.int .i64 (Zcf s 35 0)) H:=by
 have hc:=Zkj s
 refine Jw tOk fe164.ok rfl ?_
 repeat' first|refine Jc (hc _) ?_|refine Jo ?_|intro hb
 all_goals rfl
theorem ZhE (s:Zg):∃ z:Int,decide (0≤z)=s.contains 35∧∀ H,CallOk E0 Tryz.prog 154 [.str s,.str [35]] H (.int .i64 z) H:=by
 have he:=Y1 [35] s
 by_cases h:[35]=s
 · rw [decide_eq_true h] at he
   refine ⟨0,by rw [← h];rfl,?_⟩
   clear h
   refine Jw tOk fe154.ok rfl ?_
   repeat' first|refine Jk ?_|refine JS ?_|refine JX ?_|refine Ji ?_|refine Jl ?_|refine Jt ?_|refine Jb ?_ ?_|refine Jo ?_|intro hb
   all_goals rfl
 · rw [decide_eq_false h] at he
   refine ⟨Zcf s 35 0,ZfL s 0,?_⟩
   have hc:=ZhL s
   generalize Zcf s 35 0=z at hc ⊢
   have hj:=Vi (s:=[35]) (i:=0) (c:=35) rfl
   refine Jw tOk fe154.ok rfl ?_
   repeat' first|refine Jk ?_|refine Jc (hc _) ?_|refine JS ?_|refine JX ?_|refine Ji ?_|refine Jl ?_|refine Jt ?_|refine Jb ?_ ?_|refine Jo ?_|intro hb
   all_goals rfl
theorem Zie (s:Zg):∀ H,CallOk E0 Tryz.prog 104 [.str s,.str [35]] H (.bool (s.contains 35)) H:=by
 obtain ⟨z,hz,hc⟩:=ZhE s
 have hc2:∀ H,CallOk E0 Tryz.prog 134 [.str s,.str [35]] H (.int .i64 z) H:=by
  refine Jw tOk fe134.ok rfl ?_
  repeat' first|refine Jc (hc _) ?_|refine Jo ?_|intro hb
  all_goals rfl
 have hg:=Us z 0
 rw [hz] at hg
 generalize s.contains 35=B at hg ⊢
 refine Jw tOk fe104.ok rfl ?_
 cases B
 all_goals
  repeat' first|refine Jc (hc2 _) ?_|refine Ji ?_|refine Jt ?_|refine Jb ?_ ?_|refine Jo ?_|intro hb
  all_goals rfl
theorem Zj0 (hlen:l.length≤1100000) (v:Zg) (b:Bool):∀ H,CallOk E0 Tryz.prog 135 [slV b 1 (Zi l),.str v] H (.int .i64 (XS (isB v) l 0)) H:=by
 have hsl:=ZC l
 refine Jw tOk fe135.ok rfl ?_
 repeat' first|refine Ji ?_|refine JJ ?_|refine Jl ?_|refine Jx ?_|refine Jt ?_|refine Jb ?_ ?_|(apply qT (ty:=0);rfl;rfl;rfl)|(apply qF (ty:=0);rfl;rfl;rfl)|refine Jz ?_ ?_|refine Jo ?_|intro hb
 refine Wp.while (fun m tm H=>∃ (i:Nat) (base:TM),i+m=l.length∧XS (isB v) l 0=XS (isB v) (l.drop i) i∧tm=ovr base [(0,slV b 1 (Zi l)),(1,.str v),(7,.int .i64 (l.length:Int)),(8,.int .i64 (i:Int))]∧H=⟨[],0,[],0⟩)
  (fun m tm H hI=>?_) l.length _ _ ⟨0,_,by omega,by simp,Zf ⟨rfl,rfl,Zz (by rw [hsl]),rfl,trivial⟩,rfl⟩
 obtain ⟨i,base,hi,hgo,rfl,rfl⟩:=hI
 rw [hgo]
 have hlx:=Zn (i:Int) (l.length:Int)
 by_cases hlt:i<l.length
 · obtain ⟨a, ha⟩ : ∃ a, l[i]? = some a := ⟨l[i], by simp⟩
   have hj:=Yf ha
   have he:WL E0 .eql 9 (.str v) (.str a)=some (.bool (isB v a)):=Y1 v a
   rw [decide_eq_true (by omega)] at hlx
   have hii:=Zy (a:=(i:Int)) (b:=1) (by omega) (by omega)
   rw [show (i:Int)+1=((i+1:Nat):Int) by omega] at hii
   rw [Ut ha]
   generalize isB v a=B at he ⊢
   cases B with
   | true =>
     rw [if_pos rfl]
     repeat' first|refine Ji ?_|refine JJ ?_|refine Jl ?_|refine Jx ?_|refine Jt ?_|refine Jb ?_ ?_|(apply qT (ty:=0);rfl;rfl;rfl)|(apply qF (ty:=0);rfl;rfl;rfl)|refine Jz ?_ ?_|refine Jo ?_|intro hb
     all_goals rfl
   | false =>
     rw [if_neg (by simp)]
     repeat' first|refine Ji ?_|refine JJ ?_|refine Jl ?_|refine Jx ?_|refine Jt ?_|refine Jb ?_ ?_|(apply qT (ty:=0);rfl;rfl;rfl)|(apply qF (ty:=0);rfl;rfl;rfl)|refine Jz ?_ ?_|refine Jo ?_|intro hb
     exact LoopI.go (m-1) (by omega) ⟨i+1,_,by omega,rfl,Zf ⟨rfl,rfl,rfl,rfl,trivial⟩,rfl⟩
 · have e : i = l.length := by omega
   subst e
   rw [decide_eq_false (by omega)] at hlx
   rw [List.drop_length]
   repeat' first|refine Ji ?_|refine JJ ?_|refine Jl ?_|refine Jx ?_|refine Jt ?_|refine Jb ?_ ?_|(apply qT (ty:=0);rfl;rfl;rfl)|(apply qF (ty:=0);rfl;rfl;rfl)|refine Jz ?_ ?_|refine Jo ?_|intro hb
   all_goals rfl
theorem ZfT (hlen:l.length≤1100000) (v:Zg) (b:Bool):∀ H,CallOk E0 Tryz.prog 105 [slV b 1 (Zi l),.str v] H (.bool (ZU l v)) H:=by
 have hc:=Zj0 hlen v b
 rw [← ZgH,VR (isB v) l 0]
 have hge:=Us (XS (isB v) l 0) 0
 generalize XS (isB v) l 0=x at hc hge ⊢
 generalize decide (0≤x)=A at hge ⊢
 refine Jw tOk fe105.ok rfl ?_
 cases A
 all_goals
  repeat' first|refine Jc (hc _) ?_|refine Ji ?_|refine Jt ?_|refine Jb ?_ ?_|refine Jo ?_|intro hb
  all_goals rfl
theorem ZfX (t:Tm) (w:Zg) (n:Nat):∀ H,CallOk E0 Tryz.prog 106 [.agg t.cells,.str w,.int .i64 (n:Int)] H (.bool (isA t w n)) H:=by
 obtain ⟨k,nm,s,b,kz⟩:=t
 have z1:=Z6 k 3
 have z2:=Y1 nm w
 have z3:=Z6 ((Zb kz).length:Int) (n:Int)
 have hcl:=Za kz
 have e:isA (.mk k nm s b kz) w n=(decide (k=3)&&(decide (nm=w)&&decide (((Zb kz).length:Int)=(n:Int)))):=by
  show (decide (k=3)&&(decide (nm=w)&&decide (kz.length=n)))=_
  rw [show decide (kz.length=n)=decide (((Zb kz).length:Int)=(n:Int)) by rw [hcl];exact decide_eq_decide.2 (by omega)]
 rw [e]
 simp only [Tm.cells]
 generalize decide (k=3)=A at z1 ⊢
 generalize decide (nm=w)=B at z2 ⊢
 generalize decide (((Zb kz).length:Int)=(n:Int))=C at z3 ⊢
 refine Jw tOk fe106.ok rfl ?_ (by simp [Zt,frzG,Zay,frz1])
 cases A<;>cases B<;>cases C
 all_goals
  repeat' first|refine Jk ?_|refine Ji ?_|refine Jl ?_|refine Jt ?_|refine Jb ?_ ?_|refine Jo ?_|intro hb
  all_goals rfl
end Go.Vm.Seat
namespace Go.Vm
theorem Qi (b:Bool) (es:Nat) (el:List (List PV)):arg1 (slV b es el)=slV b es el:=by
 cases el with
 | nil => cases b
          · rw [ZB];rfl
          · rw [Zq];rfl
 |cons c r=>rw [Zx];rfl
abbrev ZcV (rn:Bool) (R:List Zg) (id:Nat):PV:= .agg [slV rn 1 (Zi R),.map id]
theorem Zfc (rn:Bool) (R:List Zg) (id:Nat):argV (ZcV rn R id)=ZcV rn R id:=by
 simp only [ZcV,argV,List.map_cons,List.map_nil,Qi];rfl
theorem ZbD (k:Int) (nm:Zg) (s:Int) (b:Bool) (kz:List Tm):argV (.agg [.int .i64 k,.str nm,.int .i64 s,slV b 4 (Zb kz)])= .agg [.int .i64 k,.str nm,.int .i64 s,slV b 4 (Zb kz)]:=by
 simp only [argV,List.map_cons,List.map_nil,Qi];rfl
theorem Yn {t:Tm} {w:Zg} {n:Nat} (h:isA t w n=true):t.kds.length=n∧t.knd=3∧t.nam=w:=by
 simp only [isA,Bool.and_eq_true,decide_eq_true_eq] at h
 exact ⟨h.2.2,h.1,h.2.1⟩
end Go.Vm
namespace Go.Vm.Seat
variable {R:List Zg} {l:List Tm}
open Go.Proofs
section
variable {es:List (PV×PV)}
theorem Zia (hR:R.length≤100) (rn:Bool) (t:Tm):CallOk E0 Tryz.prog 109 [ZcV rn R 0,.agg t.cells] (HM es) (.bool (WM R t)) (HM es):=by
 obtain ⟨k,nm,s,b,kz⟩:=t
 have z1:=Z6 k 2
 have hc:=ZfT (l:=R) (by omega) nm rn
 rw [show WM R (.mk k nm s b kz)=(decide (k=2)&&ZU R nm) from rfl]
 simp only [Tm.cells]
 generalize decide (k=2)=A at z1 ⊢
 generalize ZU R nm=B at hc ⊢
 refine Yu (own:=fun _=>false) tOk fe109.ok ?_
 simp only [List.map_cons,List.map_nil,Zfc,ZbD]
 refine Wp.seq ?_
 cases A<;>cases B
 all_goals
  repeat' first|refine Jk ?_|refine Jc (hc _) ?_|refine Ji ?_|refine Jt ?_|refine Jb ?_ ?_|refine Jo ?_|intro hb
  all_goals rfl
theorem sh1 (h:l.length=1):∃ a,l= [a]:=by
 match l,h with
 | [a],_=>exact ⟨a,rfl⟩
theorem sh2 (h:l.length=2):∃ a c,l= [a,c]:=by
 match l,h with
 | [a,c],_=>exact ⟨a,c,rfl⟩
theorem uTT (n:Nat) (rn:Bool) (R:List Zg) (t:Tm):Zo (n+1) [ZcV rn R 0,.agg t.cells]=true:=by
 obtain ⟨k,nm,s,b,kz⟩:=t
 simp [under,Zo,Ze,Tm.cells]
theorem uM {es:List (PV×PV)} (h:ZO 1 (.map es)=true):[Box.map es].all (ZO 1)=true:=by simp only [List.all_cons,List.all_nil,h,Bool.and_true]
theorem Zjo (hR:R.length≤100) (rn:Bool) (t:Tm) (hes:ZO 1 (.map es)=true):CallOk E0 Tryz.prog 108 [ZcV rn R 0,.agg t.cells] (HM es) (.bool (VW R t)) (HM es):=by
 have hI:=ZfX t nSk 1
 unfold VW
 cases hA:isA t nSk 1 with
 | false =>
   rw [hA] at hI
   obtain ⟨k,nm,s,b,kz⟩:=t
   simp only [Tm.cells] at hI ⊢
   refine Yu (own:=fun _=>false) tOk fe108.ok ?_
   simp only [List.map_cons,List.map_nil,Zfc,ZbD]
   refine Wp.seq ?_
   repeat' first|refine Jk ?_|refine Jc (hI _) ?_|refine Ji ?_|refine JJ ?_|refine Jx ?_|refine Jt ?_|refine Jb ?_ ?_|refine Jo ?_|(apply dK;rfl;rfl;rfl)|refine Jd (hI _) ?_|refine JD ?_|refine JK ?_|refine JI ?_|(apply dT (ty:=4);rfl;rfl;rfl;rfl)|(apply dF (ty:=4);rfl;rfl;rfl;rfl)|(apply dB (ty:=4);rfl;rfl;rfl;rfl)|refine Jh ?_|(apply Wp.draw tOk follows;kernel_rfl)|intro hb
   all_goals rfl
 | true =>
   rw [hA] at hI
   obtain ⟨x,hx⟩:=sh1 (Yn hA).1
   obtain ⟨k,nm,s,b,kz⟩:=t
   simp only [Tm.kds] at hx ⊢
   subst hx
   have hr:=fun e1=>(Zia (es:=es) hR rn x).ext (ext:=e1) rfl (uTT _ _ _ _) (uM hes) (Nat.le_refl _)
   rw [Bool.true_and,show [x].all (WM R)=WM R x by simp]
   generalize WM R x=B at hr ⊢
   obtain ⟨k',nm',s',b',kz'⟩:=x
   simp only [Tm.cells] at hI hr ⊢
   have hj:=Zh (l:=[.mk k' nm' s' b' kz']) (i:=0) rfl
   refine Yu (own:=fun _=>false) tOk fe108.ok ?_
   simp only [List.map_cons,List.map_nil,Zfc,ZbD]
   refine Wp.seq ?_
   cases B
   all_goals
    repeat' first|refine Jk ?_|refine Jc (hI _) ?_|refine Jc (hr _) ?_|refine Ji ?_|refine JJ ?_|refine Jx ?_|refine Jt ?_|refine Jb ?_ ?_|refine Jo ?_|(apply dK;rfl;rfl;rfl)|refine Jd (hI _) ?_|refine Jd (hr _) ?_|refine JD ?_|refine JK ?_|refine JI ?_|(apply dT (ty:=4);rfl;rfl;rfl;rfl)|(apply dF (ty:=4);rfl;rfl;rfl;rfl)|(apply dB (ty:=4);rfl;rfl;rfl;rfl)|refine Jh ?_|(apply Wp.draw tOk follows;kernel_rfl)|intro hb
    all_goals rfl
theorem Zjq (hR:R.length≤100) (rn:Bool) (t:Tm) (hes:ZO 1 (.map es)=true):CallOk E0 Tryz.prog 107 [ZcV rn R 0,.agg t.cells] (HM es) (.bool (WJ R t)) (HM es):=by
 have hI:=ZfX t nPk 1
 unfold WJ
 cases hA:isA t nPk 1 with
 | false =>
   rw [hA] at hI
   obtain ⟨k,nm,s,b,kz⟩:=t
   simp only [Tm.cells] at hI ⊢
   refine Yu (own:=fun _=>false) tOk fe107.ok ?_
   simp only [List.map_cons,List.map_nil,Zfc,ZbD]
   refine Wp.seq ?_
   repeat' first|refine Jk ?_|refine Jc (hI _) ?_|refine Ji ?_|refine JJ ?_|refine Jx ?_|refine Jt ?_|refine Jb ?_ ?_|refine Jo ?_|(apply dK;rfl;rfl;rfl)|refine Jd (hI _) ?_|refine JD ?_|refine JK ?_|refine JI ?_|(apply dT (ty:=4);rfl;rfl;rfl;rfl)|(apply dF (ty:=4);rfl;rfl;rfl;rfl)|(apply dB (ty:=4);rfl;rfl;rfl;rfl)|refine Jh ?_|(apply Wp.draw tOk follows;kernel_rfl)|intro hb
   all_goals rfl
 | true =>
   rw [hA] at hI
   obtain ⟨x,hx⟩:=sh1 (Yn hA).1
   obtain ⟨k,nm,s,b,kz⟩:=t
   simp only [Tm.kds] at hx ⊢
   subst hx
   have hr:=fun e1=>(Zjo (es:=es) hR rn x hes).ext (ext:=e1) rfl (uTT _ _ _ _) (uM hes) (Nat.le_refl _)
   rw [Bool.true_and,show [x].all (VW R)=VW R x by simp]
   generalize VW R x=B at hr ⊢
   obtain ⟨k',nm',s',b',kz'⟩:=x
   simp only [Tm.cells] at hI hr ⊢
   have hj:=Zh (l:=[.mk k' nm' s' b' kz']) (i:=0) rfl
   refine Yu (own:=fun _=>false) tOk fe107.ok ?_
   simp only [List.map_cons,List.map_nil,Zfc,ZbD]
   refine Wp.seq ?_
   cases B
   all_goals
    repeat' first|refine Jk ?_|refine Jc (hI _) ?_|refine Jc (hr _) ?_|refine Ji ?_|refine JJ ?_|refine Jx ?_|refine Jt ?_|refine Jb ?_ ?_|refine Jo ?_|(apply dK;rfl;rfl;rfl)|refine Jd (hI _) ?_|refine Jd (hr _) ?_|refine JD ?_|refine JK ?_|refine JI ?_|(apply dT (ty:=4);rfl;rfl;rfl;rfl)|(apply dF (ty:=4);rfl;rfl;rfl;rfl)|(apply dB (ty:=4);rfl;rfl;rfl;rfl)|refine Jh ?_|(apply Wp.draw tOk follows;kernel_rfl)|intro hb
    all_goals rfl
theorem c63 (hR:R.length≤100) (rn:Bool) (a b:Zg):CallOk E0 Tryz.prog 63 [ZcV rn R 0,.str a,.str b] (HM es) (.int .i64 (if ZU R a=false∨ZU R b=false then 13 else if a=b then 1 else 0)) (HM es):=by
 have ha:=ZfT (l:=R) (by omega) a rn
 have hb:=ZfT (l:=R) (by omega) b rn
 have z1:=Y1 a b
 generalize ZU R a=A at ha ⊢
 generalize ZU R b=B at hb ⊢
 refine Yu (own:=fun _=>false) tOk fe63.ok ?_
 simp only [List.map_cons,List.map_nil,Zfc]
 refine Wp.seq ?_
 cases A with
 | false =>
   rw [if_pos (.inl rfl)]
   repeat' first|refine Jk ?_|refine Jc (ha _) ?_|refine Jc (hb _) ?_|refine Ji ?_|refine Jt ?_|refine Jb ?_ ?_|refine Jo ?_|intro hb
   all_goals rfl
 |true=>
 cases B with
 | false =>
   rw [if_pos (.inr rfl)]
   repeat' first|refine Jk ?_|refine Jc (ha _) ?_|refine Jc (hb _) ?_|refine Ji ?_|refine Jt ?_|refine Jb ?_ ?_|refine Jo ?_|intro hb
   all_goals rfl
 |true=>
 rw [if_neg (by simp)]
 by_cases c:a=b
 · rw [decide_eq_true c] at z1
   rw [if_pos c]
   repeat' first|refine Jk ?_|refine Jc (ha _) ?_|refine Jc (hb _) ?_|refine Ji ?_|refine Jt ?_|refine Jb ?_ ?_|refine Jo ?_|intro hb
   all_goals rfl
 · rw [decide_eq_false c] at z1
   rw [if_neg c]
   repeat' first|refine Jk ?_|refine Jc (ha _) ?_|refine Jc (hb _) ?_|refine Ji ?_|refine Jt ?_|refine Jb ?_ ?_|refine Jo ?_|intro hb
   all_goals rfl
end
