/-
  slices.Grow at no slice, slices.Concat at two lists of terms.
-/
import Derived.Test.YtcopccjkfbmpcaaGreatDoorStCmp
import Derived.Test.YtcopccjkfbmpcaaGreatDoorFi
import Derived.Shelf.Spec.SlicesGrow
set_option maxHeartbeats 0
set_option maxRecDepth 100000
namespace Go.Vm.Seat
variable {n nt:Nat} {l:List Mo} {t:Tm} {L:List Tm} {out:PV} {lv:List Nat}
open Go.Proofs
theorem ZJ {m by_:Nat} (h:n+m≤10000000) (hb:by_≤1000000):VM n m by_=true:=by
 simp only [VM,Bool.and_eq_true,Nat.ble_eq]
 have:=Nat.mul_le_mul (show n+m+256≤10000256 by omega) hb
 omega
theorem Yd:ApT E0 29 29 4 56:=⟨_,_,_,_,_,rfl,rfl,rfl,rfl,rfl,rfl,rfl,by decide,rfl⟩
theorem Znf:ApT E0 25 25 6 80:=⟨_,_,_,_,_,rfl,rfl,rfl,rfl,rfl,rfl,rfl,by decide,rfl⟩
theorem ZL (l:List Tm):noB (Za l)=true:=by
 simp only [Ys,noB,List.all_map,List.all_eq_true]
 rintro ⟨k,nm,s,b,kz⟩ _
 rfl
theorem ZlI (l:List Mo):noB (moC l)=true:=by
 simp only [moC,noB,List.all_map,List.all_eq_true]
 rintro ⟨⟩ _
 rfl
theorem ZnH (l:List Mo):(moC l).all (fun c=>c.all ZX)=true:=by
 simp only [moC,List.all_map,List.all_eq_true]
 intro m _
 exact m.cells_ok
theorem c9 (hl : l.length ≤ 1000) (b : Bool) :
  ∀ H,CallOk E0 Tryz.prog 9 [slV b 6 (moC l)] H (slV b 6 (moC l)) H:=by
 refine Jw tOk fe9.ok (ZD _ _ _ _ _) ?_
 obtain ⟨out',lv',nt',hap,hA, -⟩:=(ApV.full (es:=6) [] [] 0 (rfl:false=false) rfl).app Znf (.slV b 6 (moC l)) (ZnH l) (ZJ (by simp [Y4];omega) (by decide)) (ZlI l)
 cases hL:moC l with
 | nil =>
   rw [hL] at hap hA
   cases b with
   | true =>
     rw [Zh] at hap ⊢
     repeat' first|refine Jt ?_|refine Jo ?_|fail
     all_goals rfl
   | false =>
     rw [Zx] at hap ⊢
     repeat' first|refine Js ?_|refine JA ?_|refine Jt ?_|refine Jo ?_|fail
     first
      | exact hA.frz3 _ _
      | exact (hA.frz3 _ _).trans (by rw [List.append_nil,Zx])
 | cons c r =>
   rw [hL,Zm] at hap
   rw [hL] at hA
   rw [Zm]
   repeat' first|refine Js ?_|refine JA ?_|refine Jt ?_|refine Jo ?_|fail
   rw [← Zm false]
   exact hA.frz3 _ _
theorem Zdc {i:Nat} {x:Mo} (h:l[i]? = some x):YG (l.take (i+1))=YG (l.take i)++(if x.kind=3 then x.terms else []):=by
 simp only [YG,List.take_add_one,h,Option.toList_some,List.flatMap_append,List.flatMap_cons,List.flatMap_nil,List.append_nil]
theorem Up (h:∀ m,m∈l→m.terms.length≤14):(YG l).length≤14*l.length:=by
 induction l with
 |nil=>simp [YG]
 | cons a r ih =>
   have h1:=h a List.mem_cons_self
   have h2:=ih fun m hm=>h m (List.mem_cons_of_mem _ hm)
   have e:YG (a::r)=(if a.kind=3 then a.terms else [])++YG r:=by simp only [YG,List.flatMap_cons]
   have h3:(if a.kind=3 then a.terms else []).length≤14:=by split<;>simp [h1]
   rw [e,List.length_append,List.length_cons]
   omega
theorem c26 (hl : l.length ≤ 420) (ht : ∀ m, m ∈ l → m.terms.length ≤ 14) (b : Bool) :
  ∀ H,CallOk E0 Tryz.prog 26 [slV b 6 (moC l)] H (slV true 4 (Za (YG l))) H:=by
 refine Jw tOk fe26.ok (ZD _ _ _ _ _) ?_
 repeat' first|refine Jl ?_|refine Jo ?_|fail
 refine Wp.while (fun m tm H => ∃ (i : Nat) (base : TM) (out : PV) (lv : List Nat) (nt : Nat), i + m = l.length ∧ ApV true 4 (Za (YG (l.take i))) out lv nt ∧
   tm=ovr base [(3,out),(6,slV b 6 (moC l)),(7,.int .i64 (l.length:Int)),(8,.int .i64 (i:Int))]∧H=⟨[],0,lv,nt⟩)
  (fun m tm H hI=>Wp.drop ?_) l.length _ _ ⟨0,_,_,_,_,by omega,.nil _ _ rfl,Zf ⟨rfl,rfl,Ze (by rw [Y4]),rfl,trivial⟩,rfl⟩
 obtain ⟨i,base,out,lv,nt,hi,hA,rfl,rfl⟩:=hI
 by_cases hlt:i<l.length
 · obtain ⟨x, hx⟩ : ∃ x, l[i]? = some x := ⟨l[i], by simp⟩
   have hm:x∈l:=List.mem_of_getElem? hx
   have hs:=Zdc hx
   have h14:=ht x hm
   have hsl:=Up (l:=l.take i) fun m hm=>ht m (List.mem_of_mem_take hm)
   rw [List.length_take] at hsl
   obtain ⟨out',lv',nt',hap,hA', -⟩:=hA.app Yd (.slV x.tn 4 (Za x.terms)) (Zn _) (ZJ (by simp only [Zb];omega) (by decide)) (ZL _)
   rw [← Zt] at hA'
   have hj:=Va hx
   obtain ⟨kd,nu,ro,an,ag,go,tn,te⟩:=x
   simp only [Mo.cells] at hj hs hap hA'
   repeat' first|refine JA ?_|refine Jx ?_|refine Jb ?_ ?_|refine Jz ?_ ?_|refine Jo ?_|intro hb
   · have e : kd = 3 := by simpa using hb
     rw [if_pos e] at hs
     exact DropQ.go [(3,out'),(6,slV b 6 (moC l)),(7,.int .i64 (l.length:Int)),(8,.int .i64 ((i+1:Nat):Int))] ⟨rfl,rfl,rfl,Ze (Zd (n:=i+1) (by omega)),trivial⟩
      (by simp [hA'.under,Zj,under]) rfl rfl (LoopI.go (m-1) (by omega) ⟨i+1,_,out',lv',nt',by omega,by rw [hs];exact hA',rfl,rfl⟩)
   · have e : ¬ kd = 3 := by simpa using hb
     rw [if_neg e,List.append_nil] at hs
     exact DropQ.go [(3,out),(6,slV b 6 (moC l)),(7,.int .i64 (l.length:Int)),(8,.int .i64 ((i+1:Nat):Int))] ⟨rfl,rfl,rfl,Ze (Zd (n:=i+1) (by omega)),trivial⟩
      (by simp [hA.under,Zj,under]) rfl rfl (LoopI.go (m-1) (by omega) ⟨i+1,_,out,lv,nt,by omega,by rw [hs];exact hA,rfl,rfl⟩)
   · simp at hb<;>omega
 · have e : i = l.length := by omega
   subst e
   rw [List.take_length] at hA
   repeat' first|refine Jz ?_ ?_|refine Jo ?_|intro hb
   · simp at hb
   · exact hA.frz3 _ _
theorem c36 (hl : l.length ≤ 420) (ht : ∀ m, m ∈ l → m.terms.length ≤ 14) (b : Bool) :
  ∀ H,CallOk E0 Tryz.prog 36 [slV b 6 (moC l)] H (slV true 4 (Za (YG l))) H:=by
 refine Jw tOk fe36.ok (ZD _ _ _ _ _) ?_
 repeat' first|refine Jo ?_|fail
 refine Wp.while (fun m tm H => ∃ (i : Nat) (base : TM) (out : PV) (lv : List Nat) (nt : Nat), i + m = l.length ∧ ApV true 4 (Za (YG (l.take i))) out lv nt ∧
   tm=ovr base [(3,out),(0,slV b 6 (moC l)),(4,.int .i64 (i:Int))]∧H=⟨[],0,lv,nt⟩)
  (fun m tm H hI=>?_) l.length _ _ ⟨0,_,_,_,_,by omega,.nil _ _ rfl,Zf ⟨rfl,rfl,rfl,trivial⟩,rfl⟩
 obtain ⟨i,base,out,lv,nt,hi,hA,rfl,rfl⟩:=hI
 by_cases hlt:i<l.length
 · obtain ⟨x, hx⟩ : ∃ x, l[i]? = some x := ⟨l[i], by simp⟩
   have hm:x∈l:=List.mem_of_getElem? hx
   have hs:=Zdc hx
   have h14:=ht x hm
   have hsl:=Up (l:=l.take i) fun m hm=>ht m (List.mem_of_mem_take hm)
   rw [List.length_take] at hsl
   obtain ⟨out',lv',nt',hap,hA', -⟩:=hA.app Yd (.slV x.tn 4 (Za x.terms)) (Zn _) (ZJ (by simp only [Zb];omega) (by decide)) (ZL _)
   rw [← Zt] at hA'
   have hj:=Va hx
   obtain ⟨kd,nu,ro,an,ag,go,tn,te⟩:=x
   simp only [Mo.cells] at hj hs hap hA'
   repeat' first|refine JA ?_|refine Jl ?_|refine Jx ?_|refine Jb ?_ ?_|refine Jo ?_|intro hb
   · have e : kd = 3 := by simpa using hb
     rw [if_pos e] at hs
     exact LoopI.go (m-1) (by omega) ⟨i+1,_,out',lv',nt',by omega,by rw [hs];exact hA',Zf ⟨rfl,rfl,Ze (Zd (n:=i+1) (by omega)),trivial⟩,rfl⟩
   · have e : ¬ kd = 3 := by simpa using hb
     rw [if_neg e,List.append_nil] at hs
     exact LoopI.go (m-1) (by omega) ⟨i+1,_,out,lv,nt,by omega,by rw [hs];exact hA,Zf ⟨rfl,rfl,Ze (Zd (n:=i+1) (by omega)),trivial⟩,rfl⟩
   · rw [Y4] at hb;simp at hb<;>omega
 · have e : i = l.length := by omega
   subst e
   rw [List.take_length] at hA
   repeat' first|refine Jl ?_|refine Jb ?_ ?_|refine Jo ?_|intro hb
   · rw [Y4] at hb;simp at hb
   · exact hA.frz3 _ _
theorem Zm4 (c:List PV) (r:List (List PV)):Xb E0 29 (.sl .none 4 (c::r)) (some (.int .i64 1)) none none=some (.sl .none 4 r):=by
 have e1:E0.T 29=some ⟨.slice 48,1,24,.nils⟩:=by kernel_rfl
 have e2:E0.T 48=some ⟨.struct [(0,3),(1,9),(2,3),(3,29)],4,56,.agg [.int .i64 0,.str [],.int .i64 0,.nils]⟩:=by kernel_rfl
 have h1:nat? (.int .i64 1)=some 1:=rfl
 simp only [Xb,e1,e2,if_true,Zc0,Wg,h1,Zej,ite_self]
 rw [if_pos (by simp)]
 simp
theorem Zou {u:Tm} (ht:t.Ok∧t.size≤100000) (hu:u.Ok∧u.size≤100000):∀ H,CallOk E0 Tryz.prog 28 [.agg t.cells,.agg u.cells] H (.int .i64 (t.cmp u)) H:=fun H=>
 ZlX (d28 ht.1 hu.1 (by have:=ht.2;omega) (by have:=hu.2;omega) H)
theorem Zah (hA:ApV true 4 (Za L) out lv nt) (x:Tm) (hL:L.length≤1000000):∃ out' lv' nt',(∀ bx ro,ZO E0 29 29 out (.sl .full 4 [x.cells]) ⟨bx,ro,lv,nt⟩=some (out',⟨bx,ro,lv',nt'⟩))∧ApV true 4 (Za (L++ [x])) out' lv' nt':=by
 obtain ⟨out',lv',nt',hap,hA', -⟩:=hA.app Yd (.sl .full 4 (Za [x])) (Zn _) (ZJ (by simp only [Zb,List.length_cons,List.length_nil];omega) (by decide)) (ZL _)
 rw [← Zt] at hA'
 exact ⟨out',lv',nt',hap,hA'⟩
theorem Zj2 (hA:ApV true 4 (Za L) out lv nt) (M:List Tm) (b:Bool) (hL:L.length+M.length≤1000000):∃ out' lv' nt',(∀ bx ro,ZO E0 29 29 out (slV b 4 (Za M)) ⟨bx,ro,lv,nt⟩=some (out',⟨bx,ro,lv',nt'⟩))∧ApV true 4 (Za (L++M)) out' lv' nt':=by
 obtain ⟨out',lv',nt',hap,hA', -⟩:=hA.app Yd (.slV b 4 (Za M)) (Zn _) (ZJ (by simp only [Zb];omega) (by decide)) (ZL _)
 rw [← Zt] at hA'
 exact ⟨out',lv',nt',hap,hA'⟩
theorem ZqP {a b:List Tm} (ha:SmL a) (hb':SmL b) (hl:a.length+b.length≤1000000) (ba bb:Bool):∀ H,CallOk E0 Tryz.prog 215 [slV ba 4 (Za a),slV bb 4 (Za b)] H (slV true 4 (Za (Z5 a b))) H:=by
 refine Jw tOk fe215.ok (ZD _ _ _ _ _) ?_
 repeat' first|refine Jo ?_|fail
 refine Wp.while (fun m tm H => ∃ (x y d : List Tm) (b1 b2 : Bool) (base : TM) (out : PV) (lv : List Nat) (nt : Nat), x.length + y.length = m ∧ d.length + m ≤ 1000000 ∧ SmL x ∧ SmL y ∧ Z5 a b = d ++ Z5 x y ∧ ApV true 4 (Za d) out lv nt ∧
   tm=ovr base [(5,out),(0,slV b1 4 (Za x)),(1,slV b2 4 (Za y))]∧H=⟨[],0,lv,nt⟩)
  (fun m tm H hI=>Wp.drop ?_) (a.length+b.length) _ _ ⟨a,b,[],ba,bb,_,_,_,_,rfl,by simpa using hl,ha,hb',by simp,.nil _ _ rfl,Zf ⟨rfl,rfl,rfl,trivial⟩,rfl⟩
 clear ha hb' hl
 obtain ⟨x,y,d,b1,b2,base,out,lv,nt,hm,hd,hx,hy,hp,hA,rfl,rfl⟩:=hI
 match x,y,hx,hy,hm,hp with
 | [], y, hx, hy, hm, hp =>
   obtain ⟨o1,lv1,nt1,hap1,hA1⟩:=Zj2 hA [] b1 (by simp at hm ⊢;omega)
   obtain ⟨o2,lv2,nt2,hap2,hA2⟩:=Zj2 hA1 y b2 (by simp at hm ⊢;omega)
   rw [Z5] at hp
   rw [hp]
   rw [List.append_nil] at hA2
   cases b1
   all_goals
    repeat' first|refine Jk ?_|refine JA ?_|refine Jl ?_|refine Jt ?_|refine Jo ?_|fail
    exact hA2.frz3 _ _
 | x :: xr, [], hx, hy, hm, hp =>
   obtain ⟨o1,lv1,nt1,hap1,hA1⟩:=Zj2 hA (x::xr) b1 (by simp at hm ⊢;omega)
   obtain ⟨o2,lv2,nt2,hap2,hA2⟩:=Zj2 hA1 [] b2 (by simp at hm ⊢;omega)
   rw [Z5] at hp
   rw [hp]
   rw [List.append_nil] at hA2
   cases b2
   all_goals
    repeat' first|refine Jk ?_|refine JA ?_|refine Jl ?_|refine Jt ?_|refine Jb ?_ ?_|refine Jo ?_|intro hb
    all_goals first
     | exact hA2.frz3 _ _
     | (exfalso;simp at hb<;>omega)
 | x :: xr, y :: yr, hx, hy, hm, hp =>
   have hc:=Zou hx.head hy.head
   obtain ⟨o1,lv1,nt1,hap1,hA1⟩:=Zah hA x (by omega)
   obtain ⟨o2,lv2,nt2,hap2,hA2⟩:=Zah hA y (by omega)
   rw [Z5] at hp
   have hl1:(d++ [x]).length=d.length+1:=by simp
   have hl2:(d++ [y]).length=d.length+1:=by simp
   generalize hcc:x.cmp y=c at hc hp
   have ex:slV b1 4 (Za (x::xr))= .sl .none 4 (x.cells::Za xr):=Zm _ _ _ _
   have ey:slV b2 4 (Za (y::yr))= .sl .none 4 (y.cells::Za yr):=Zm _ _ _ _
   rw [ex,ey]
   clear hcc ex ey
   simp only [List.length_cons] at hm
   obtain ⟨k1,n1,s1,f1,l1⟩:=x
   obtain ⟨k2,n2,s2,f2,l2⟩:=y
   simp only [Tm.cells] at hc hap1 hap2 ⊢
   have hs1:=Zm4 [.int .i64 k1,.str n1,.int .i64 s1,slV f1 4 (Za l1)] (Za xr)
   have hs2:=Zm4 [.int .i64 k2,.str n2,.int .i64 s2,slV f2 4 (Za l2)] (Za yr)
   have ex:PV.sl .none 4 ([.int .i64 k1,.str n1,.int .i64 s1,slV f1 4 (Za l1)]::Za xr)=slV true 4 (Za (.mk k1 n1 s1 f1 l1::xr)):=(Zm _ _ _ _).symm
   have ey:PV.sl .none 4 ([.int .i64 k2,.str n2,.int .i64 s2,slV f2 4 (Za l2)]::Za yr)=slV true 4 (Za (.mk k2 n2 s2 f2 l2::yr)):=(Zm _ _ _ _).symm
   by_cases h1:c<0
   · rw [if_pos h1] at hp
     clear hap2 hA2
     repeat' first|refine Jk ?_|refine Jt ?_|refine Jb ?_ ?_|refine Jo ?_|refine Jd (hc _) ?_|refine JB ?_|(apply dAp;rfl;rfl;rfl;rfl;rfl;(first|assumption|solve_by_elim);rfl)|(apply dSl;rfl;rfl;rfl;rfl;rfl;rfl;assumption;exact IsV.any _;rfl)|refine Jh ?_|(apply Wp.draw tOk follows;kernel_rfl)|intro hb
     all_goals first
      | (exfalso;simp only [decide_eq_true_eq,decide_eq_false_iff_not] at *;omega)
      | (exfalso;simp at hb;done)
      | exact DropQ.go [(5, o1), (0, slV false 4 (Za xr)), (1, slV true 4 (Za (.mk k2 n2 s2 f2 l2 :: yr)))] ⟨rfl, (Z0 _ _).symm, ey, trivial⟩ (by simp [hA1.under, Zj]) rfl rfl
          (LoopI.go (m-1) (by omega) ⟨xr,.mk k2 n2 s2 f2 l2::yr,d++ [.mk k1 n1 s1 f1 l1],false,true,_,o1,lv1,nt1,by simp only [List.length_cons];omega,by omega,hx.tail,hy,by rw [hp];simp,hA1,rfl,rfl⟩)
   · rw [if_neg h1] at hp
     clear hap1 hA1
     by_cases h2:0<c
     · rw [if_pos h2] at hp
       repeat' first|refine Jk ?_|refine Jt ?_|refine Jb ?_ ?_|refine Jo ?_|refine Jd (hc _) ?_|refine JB ?_|(apply dAp;rfl;rfl;rfl;rfl;rfl;(first|assumption|solve_by_elim);rfl)|(apply dSl;rfl;rfl;rfl;rfl;rfl;rfl;assumption;exact IsV.any _;rfl)|refine Jh ?_|(apply Wp.draw tOk follows;kernel_rfl)|intro hb
       all_goals first
        | (exfalso;simp only [decide_eq_true_eq,decide_eq_false_iff_not] at *;omega)
        | (exfalso;simp at hb;done)
        | exact DropQ.go [(5, o2), (0, slV true 4 (Za (.mk k1 n1 s1 f1 l1 :: xr))), (1, slV false 4 (Za yr))] ⟨rfl, ex, (Z0 _ _).symm, trivial⟩ (by simp [hA2.under, Zj]) rfl rfl
            (LoopI.go (m-1) (by omega) ⟨.mk k1 n1 s1 f1 l1::xr,yr,d++ [.mk k2 n2 s2 f2 l2],true,false,_,o2,lv2,nt2,by simp only [List.length_cons];omega,by omega,hx,hy.tail,by rw [hp];simp,hA2,rfl,rfl⟩)
     · rw [if_neg h2] at hp
       clear hap2 hA2
       repeat' first|refine Jk ?_|refine Jt ?_|refine Jb ?_ ?_|refine Jo ?_|refine Jd (hc _) ?_|refine JB ?_|(apply dSl;rfl;rfl;rfl;rfl;rfl;rfl;assumption;exact IsV.any _;rfl)|refine Jh ?_|(apply Wp.draw tOk follows;kernel_rfl)|intro hb
       all_goals first
        | (exfalso;simp only [decide_eq_true_eq,decide_eq_false_iff_not] at *;omega)
        | (exfalso;simp at hb;done)
        | exact DropQ.go [(5, out), (0, slV false 4 (Za xr)), (1, slV false 4 (Za yr))] ⟨rfl, (Z0 _ _).symm, (Z0 _ _).symm, trivial⟩ (by simp [hA.under, Zj]) rfl rfl
            (LoopI.go (m-2) (by omega) ⟨xr,yr,d,false,false,_,out,lv,nt,by omega,by omega,hx.tail,hy.tail,hp,hA,rfl,rfl⟩)
theorem ZrT (ht:t.Ok):t.size≤100000→∀ H,CallOk E0 Tryz.prog 216 [.agg t.cells] H (slV true 4 (Za t.sumP)) H:=by
 induction ht with
 | @mk k nm s b kz hk hs hn hl hok ih=>
 intro hsz
 simp only [Tm.size] at hsz
 refine ZU (own:=fun _=>false) tOk fe216.ok (by simp [Zz,frzG,Tm.cells,Xr]) (ZD _ _ _ _ _) ?_
 by_cases hx:k=3∧nm=Za9
 · obtain ⟨rfl, rfl⟩ := hx
   rw [Tm.sumP,if_neg (fun h=>absurd h.2.1 (by decide)),if_pos ⟨rfl,rfl⟩]
   simp only [Tm.cells,Za9]
   have hkl:=Yt kz
   have hkid:SmL kz:=fun t ht=>⟨hok t ht,by have:=Z3 ht;omega⟩
   refine Wp.seq ?_
   repeat' first|refine Jk ?_|refine Jl ?_|refine Jt ?_|refine Jo ?_|fail
   refine Wp.while (fun m tm H => ∃ (i : Nat) (base : TM), i + m = kz.length ∧
     tm=ovr base [(1,.ptr 0 4 0 0),(3,slV true 4 (Za (ZT (kz.take i) []))),(31,slV b 4 (Za kz)),(32,.int .i64 (kz.length:Int)),(33,.int .i64 (i:Int))]∧H=⟨[.cells 4 [[.int .i64 3,.str [120,111,114],.int .i64 s,slV b 4 (Za kz)]]],0,[],0⟩)
    (fun m tm H hI=>Wp.drop ?_) kz.length _ _ ⟨0,_,by omega,Zf ⟨rfl,(by simp only [List.take_zero,ZT,Za,Zh];rfl),rfl,Ze (by rw [Zb]),rfl,trivial⟩,rfl⟩
   obtain ⟨i,base,hi,rfl,rfl⟩:=hI
   have h1:=Y6 (kz.take i) []
   have h2:=ZI kz i
   simp only [List.length_nil] at h1
   by_cases hlt:i<kz.length
   · obtain ⟨t', ht'⟩ : ∃ t', kz[i]? = some t' := ⟨kz[i], by simp⟩
     have hm:t'∈kz:=List.mem_of_getElem? ht'
     have hle:=Z3 hm
     have hsn:=We [] ht'
     have h3:=Ux t'
     have hc:=ih t' hm (by omega)
     have hp:=ZqP (hkid.take i).sumL (SmL.sum (hok t' hm) (by omega)) (by omega) true true
     rw [← hsn] at hp
     obtain ⟨k',nm',s',b',kz'⟩:=t'
     have hj:=Zk ht'
     simp only [Tm.cells] at hc
     repeat' first|refine Jc (hc _) ?_|refine Jc (hp _) ?_|refine Jx ?_|refine Jz ?_ ?_|refine Jo ?_|intro hb
     all_goals first
      | (exfalso;simp at hb<;>omega)
      | exact DropQ.go [(1, .ptr 0 4 0 0), (3, slV true 4 (Za (ZT (kz.take (i + 1)) []))), (31, slV b 4 (Za kz)), (32, .int .i64 (kz.length : Int)), (33, .int .i64 ((i + 1 : Nat) : Int))] ⟨rfl, rfl, rfl, rfl, Ze (Zd (n := i + 1) (by omega)), trivial⟩
          (by simp [Zj,under]) rfl (by simp [YS,ZN,under,Zj]) (LoopI.go (m-1) (by omega) ⟨i+1,_,by omega,rfl,rfl⟩)
   · have e : i = kz.length := by omega
     subst e
     repeat' first|refine Jz ?_ ?_|refine Jo ?_|intro hb
     · exfalso;simp at hb
     · rw [List.take_length]
       exact ZD _ _ _ _ _
 · rw [Tm.sumP]
   by_cases hz:k=3∧nm=WU∧kz= []
   · obtain ⟨rfl, rfl, rfl⟩ := hz
     rw [if_pos ⟨rfl,rfl,rfl⟩]
     simp only [Tm.cells,WU]
     refine Wp.seq ?_
     cases b
     all_goals
      repeat' first|refine Jl ?_|refine Jt ?_|refine Jo ?_|fail
      simp only [Za,Zh]
      rfl
   · rw [if_neg hz, if_neg hx]
     have e:slV true 4 (Za [.mk k nm s b kz])= .sl .none 4 [[.int .i64 k,.str nm,.int .i64 s,slV b 4 (Za kz)]]:=Zm _ _ _ _
     rw [e]
     simp only [Tm.cells]
     refine Wp.seq ?_
     repeat' first|refine Jk ?_|refine Js ?_|refine Jl ?_|refine Jt ?_|refine Jb ?_ ?_|refine Jo ?_|intro hb
     all_goals first
      | rfl
      | (exfalso;clear ih;simp_all [Za9,WU,Zb])
open Go.RowKit Go.Lib
theorem ZoQ (n : Nat) (h0 : 0 < n) (hn : n ≤ 1000000) (w : World) :
  Calls Tryz.prog 228 #[.slice none 0 0,.int .i64 (n:Int)] w fun e w'=>∃ (G:Nat) (ROW:Array Value),n≤G∧G≤9223372036854775807∧ROW.size=G*4∧e= .returned (.slice (some ⟨w.heap.size,0,none⟩) 0 G)∧w'=w.drew.alloc (.cells ROW 48):=by
 have mixed:=follows
 have hsz:(Tryz.prog.info? 48).map (·.size)=some 4:=by kernel_rfl
 have hbz:(Tryz.prog.info? 48).map (fun i=>(Nat.ble i.bytes 1000,i.zero.isSome,(i.zero.map (·.cells.size))))=some (true,true,some 4):=by kernel_rfl
 obtain ⟨i0,hi0⟩:∃ i,Tryz.prog.info? 48=some i:=by
  cases hq:Tryz.prog.info? 48 with
  | none=>simp [hq] at hsz
  | some i=>exact ⟨i,rfl⟩
 have hzs:i0.size=4:=by simpa [hi0] using hsz
 simp only [hi0,Option.map_some,Option.some.injEq,Prod.mk.injEq] at hbz
 obtain ⟨hb0,hz0,hz7⟩:=hbz
 obtain ⟨z,hz0⟩:=Option.isSome_iff_exists.1 hz0
 have hz7:z.cells.size=4:=by simpa [hz0] using hz7
 have hbytes:i0.bytes≤1000:=Nat.le_of_ble_eq_true hb0
 have hbig:n*i0.bytes≤1000000000:=Nat.le_trans (Nat.mul_le_mul hn hbytes) (by decide)
 have hw1:IntKind.i64.wrap ((0:Int)-0)=0:=rfl
 have hw2:IntKind.i64.wrap ((n:Int)-0)=(n:Int):=by rw [IntKind.wrap_i64];omega
 have hrz : ∀ ty, (Builtin.append_ #[29, 3] ty #[.slice none 0 0, .int .i64 (n : Int)]).run Tryz.prog w =
   .ok (.slice (some ⟨w.heap.size,0,none⟩) n (grownCap w n 0 48)) (w.drew.alloc (.cells (#[]++Builtin.zeroCells z.cells n++Builtin.zeroCells z.cells (grownCap w n 0 48-n)) 48)):=fun ty=>by
  have h:=Lib.run_append_grow_zeros w 29 3 ty 48 i0 z .i64 .i64 Tryz.underlying29 Tryz.underlying3 hi0 hz0 none 0 0 [] (run_firstCells_none w.drew i0.size 0 0 0) n h0 (by omega) (by omega) (by omega) (by omega)
   (by rw [Nat.zero_add];exact growslice_fits (by omega) (by omega))
  rw [Nat.zero_add] at h
  exact h
 obtain ⟨G,hG⟩:∃ G,G=grownCap w n 0 48:=⟨_,rfl⟩
 obtain ⟨ROW,hROW⟩:∃ ROW:Array Value,ROW= #[]++Builtin.zeroCells z.cells n++Builtin.zeroCells z.cells (G-n):=⟨_,rfl⟩
 rw [← hG] at hrz
 rw [← hROW] at hrz
 have hGn:n≤G:=by rw [hG];exact grownCap_ge w _ _ _
 have hG63:G≤9223372036854775807:=by
  have:=grownCap_le_maxLen w n 0 48 (by unfold maxLen;omega)
  rw [← hG] at this
  unfold maxLen at this
  omega
 have hRs:ROW.size=G*4:=by
  rw [hROW]
  simp [Builtin.zeroCells,hz7]
  omega
 have h1:¬ ((n:Int)<0):=by omega
 have h4:(n:Int) > 0:=by omega
 clear hG hROW hbig
 go_enter Tryz.func228,Tryz.ntmps228
 go_wp2_with (at_builtin;refine Lib.wpList_append_run _ rfl _ _ _ _ rfl _ _ rfl rfl _ _ (hrz _) ?_)
 all_goals (go_ret;first|exact ⟨G,ROW,hGn,hG63,hRs,rfl,rfl⟩|exact ⟨G,hGn,hG63,ROW,hRs,rfl,rfl⟩)
theorem ZjZ (h0:0<n) (hn:n≤1000000):CallOk E0 Tryz.prog 228 [.nils,.int .i64 (n:Int)] hNil (.own 0 4 0 0) ⟨[.cells 4 []],0,[],0⟩:=by
 intro g w vals hi hg hv
 obtain ⟨v0,v1,rfl,a0,a1⟩:=Vl hv
 obtain rfl:=a0.nils_inv
 obtain rfl:=a1.int_inv
 have hf:FnOk Tryz.prog 228 fe228.fn fe228.c:=fe228.ok
 rw [ZE hf]
 simp only [UponCall]
 refine Calls.mono (ZoQ n h0 hn w) fun e w' ⟨G,ROW,g1,g2,g3,he,hw'⟩=>?_
 subst he
 subst hw'
 have hi1:Inv g hNil w.drew:=hi.same rfl
 obtain ⟨i1,k1⟩:=Vj hi1 (.cells ROW 48) (.cells 4 []) rfl (fun es el h=>by cases h;exact ⟨ROW,48,rfl,fun i hi=>absurd hi (by simp),by simp,fun i hi=>absurd hi (by simp)⟩) (fun es h=>by cases h) (G*4) (fun c T m h=>by cases h;omega)
 have k0:Keep g hNil w g hNil w.drew:= .same rfl (.rfls)
 refine ⟨_,rfl,_,.own 0 4 0 0 w.heap.size G _ (by simp [Gh.link,hNil]) (Nat.zero_le _) (fun _=>by simp) rfl ⟨by simp [Gh.link,hNil],g2⟩,i1,KeepN.then k0 hi k1⟩
theorem Zoc (w:World):Calls Tryz.prog 228 #[.slice none 0 0,.int .i64 0] w fun e w'=>e= .returned (.slice none 0 0)∧w'=w:=by
 have mixed:=follows
 have hw1:IntKind.i64.wrap ((0:Int)-0)=0:=rfl
 go_enter Tryz.func228,Tryz.ntmps228
 go_wp2
 all_goals (go_ret;exact ⟨rfl,rfl⟩)
theorem Zp0:CallOk E0 Tryz.prog 228 [.nils,.int .i64 0] hNil .nils hNil:=by
 intro g w vals hi hg hv
 obtain ⟨v0,v1,rfl,a0,a1⟩:=Vl hv
 obtain rfl:=a0.nils_inv
 obtain rfl:=a1.int_inv
 have hf:FnOk Tryz.prog 228 fe228.fn fe228.c:=fe228.ok
 rw [ZE hf]
 simp only [UponCall]
 refine Calls.mono (Zoc w) fun e w' ⟨he,hw'⟩=>?_
 subst he
 subst hw'
 exact ⟨_,rfl,g,.pure _ _ .nils,hi,KeepN.refl _ _ _ _⟩
