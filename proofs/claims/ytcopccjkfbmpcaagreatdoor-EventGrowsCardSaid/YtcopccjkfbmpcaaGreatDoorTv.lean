/-
  Names, valid terms: the program's and the reference's text compute the same.
-/
import Derived.Test.YtcopccjkfbmpcaaGreatDoorEp
import Derived.Test.YtcopccjkfbmpcaaGreatDoorFi
import Derived.Shelf.Spec.SlicesGrow
set_option maxHeartbeats 0
set_option maxRecDepth 100000
namespace Go.Vm.Seat
variable {t:Tm} {L a b:List Tm} {out:PV} {lv:List Nat} {i k n nt:Nat} {bx:List Box} {s:List UInt8} {x:UInt8}
open Go.Proofs
theorem Zqn (c:List PV) (r:List (List PV)):Yz E0 29 (.sl .none 4 (c::r)) (some (.int .i64 1)) none none=some (.sl .none 4 r):=by
 have e1:E0.T 29=some ⟨.slice 48,1,24,.nils⟩:=by kernel_rfl
 have e2:E0.T 48=some ⟨.struct [(0,3),(1,9),(2,3),(3,29)],4,56,.agg [.int .i64 0,.str [],.int .i64 0,.nils]⟩:=by kernel_rfl
 have h1:nat? (.int .i64 1)=some 1:=rfl
 simp only [Yz,e1,e2,if_true,Za6,X4,h1,Zda,ite_self]
 rw [if_pos (by simp)]
 simp
theorem Zrz {u:Tm} (ht:t.Ok∧t.size≤100000) (hu:u.Ok∧u.size≤100000):∀ H,CallOk E0 Tryz.prog 28 [.agg t.cells,.agg u.cells] H (.int .i64 (t.cmp u)) H:=fun H=>
 Zoe (d28 ht.1 hu.1 (by have:=ht.2;omega) (by have:=hu.2;omega) H)
theorem QN (hA:ApV true 4 (Za L) out lv nt) (x:Tm) (hL:L.length≤1000000):∃ out' lv' nt',(∀ bx ro,ZA E0 29 29 out (.sl .full 4 [x.cells]) ⟨bx,ro,lv,nt⟩=some (out',⟨bx,ro,lv',nt'⟩))∧ApV true 4 (Za (L++ [x])) out' lv' nt':=by
 obtain ⟨out',lv',nt',hap,hA', -⟩:=hA.app Yh (.sl .full 4 (Za [x])) (Zn _) (ZD (by simp only [Zb,List.length_cons,List.length_nil];omega) (by decide)) (ZO _)
 rw [← Zt] at hA'
 exact ⟨out',lv',nt',hap,hA'⟩
theorem Zl3 (hA:ApV true 4 (Za L) out lv nt) (M:List Tm) (b:Bool) (hL:L.length+M.length≤1000000):∃ out' lv' nt',(∀ bx ro,ZA E0 29 29 out (slV b 4 (Za M)) ⟨bx,ro,lv,nt⟩=some (out',⟨bx,ro,lv',nt'⟩))∧ApV true 4 (Za (L++M)) out' lv' nt':=by
 obtain ⟨out',lv',nt',hap,hA', -⟩:=hA.app Yh (.slV b 4 (Za M)) (Zn _) (ZD (by simp only [Zb];omega) (by decide)) (ZO _)
 rw [← Zt] at hA'
 exact ⟨out',lv',nt',hap,hA'⟩
theorem Zui (ha:SmL a) (hb':SmL b) (hl:a.length+b.length≤1000000) (ba bb:Bool):∀ H,CallOk E0 Tryz.prog 215 [slV ba 4 (Za a),slV bb 4 (Za b)] H (slV true 4 (Za (Ya a b))) H:=by
 refine Jw tOk fe215.ok (ZK _ _ _ _ _) ?_
 repeat' first|refine Jo ?_|fail
 refine Wp.while (fun m tm H => ∃ (x y d : List Tm) (b1 b2 : Bool) (base : TM) (out : PV) (lv : List Nat) (nt : Nat), x.length + y.length = m ∧ d.length + m ≤ 1000000 ∧ SmL x ∧ SmL y ∧ Ya a b = d ++ Ya x y ∧ ApV true 4 (Za d) out lv nt ∧
   tm=ovr base [(5,out),(0,slV b1 4 (Za x)),(1,slV b2 4 (Za y))]∧H=⟨[],0,lv,nt⟩)
  (fun m tm H hI=>Wp.drop ?_) (a.length+b.length) _ _ ⟨a,b,[],ba,bb,_,_,_,_,rfl,by simpa using hl,ha,hb',by simp,.nil _ _ rfl,Zf ⟨rfl,rfl,rfl,trivial⟩,rfl⟩
 clear ha hb' hl
 obtain ⟨x,y,d,b1,b2,base,out,lv,nt,hm,hd,hx,hy,hp,hA,rfl,rfl⟩:=hI
 match x,y,hx,hy,hm,hp with
 | [], y, hx, hy, hm, hp =>
   obtain ⟨o1,lv1,nt1,hap1,hA1⟩:=Zl3 hA [] b1 (by simp at hm ⊢;omega)
   obtain ⟨o2,lv2,nt2,hap2,hA2⟩:=Zl3 hA1 y b2 (by simp at hm ⊢;omega)
   rw [Ya] at hp
   rw [hp]
   rw [List.append_nil] at hA2
   cases b1
   all_goals
    repeat' first|refine Jk ?_|refine JA ?_|refine Jl ?_|refine Jt ?_|refine Jo ?_|fail
    exact hA2.frz3 _ _
 | x :: xr, [], hx, hy, hm, hp =>
   obtain ⟨o1,lv1,nt1,hap1,hA1⟩:=Zl3 hA (x::xr) b1 (by simp at hm ⊢;omega)
   obtain ⟨o2,lv2,nt2,hap2,hA2⟩:=Zl3 hA1 [] b2 (by simp at hm ⊢;omega)
   rw [Ya] at hp
   rw [hp]
   rw [List.append_nil] at hA2
   cases b2
   all_goals
    repeat' first|refine Jk ?_|refine JA ?_|refine Jl ?_|refine Jt ?_|refine Jb ?_ ?_|refine Jo ?_|intro hb
    all_goals first
     | exact hA2.frz3 _ _
     | (exfalso;simp at hb<;>omega)
 | x :: xr, y :: yr, hx, hy, hm, hp =>
   have hc:=Zrz hx.head hy.head
   obtain ⟨o1,lv1,nt1,hap1,hA1⟩:=QN hA x (by omega)
   obtain ⟨o2,lv2,nt2,hap2,hA2⟩:=QN hA y (by omega)
   rw [Ya] at hp
   have hl1:(d++ [x]).length=d.length+1:=by simp
   have hl2:(d++ [y]).length=d.length+1:=by simp
   generalize hcc:x.cmp y=c at hc hp
   have ex:slV b1 4 (Za (x::xr))= .sl .none 4 (x.cells::Za xr):=Zm _ _ _ _
   have ey:slV b2 4 (Za (y::yr))= .sl .none 4 (y.cells::Za yr):=Zm _ _ _ _
   rw [ex,ey]
   clear hcc ex ey
   simp only [List.length_cons] at hm
   obtain ⟨k1,n1,s1,f1,l1⟩:=x
   obtain ⟨k2,n2,s2,f2,l2⟩:=y
   simp only [Tm.cells] at hc hap1 hap2 ⊢
   have hs1:=Zqn [.int .i64 k1,.str n1,.int .i64 s1,slV f1 4 (Za l1)] (Za xr)
   have hs2:=Zqn [.int .i64 k2,.str n2,.int .i64 s2,slV f2 4 (Za l2)] (Za yr)
   have ex:PV.sl .none 4 ([.int .i64 k1,.str n1,.int .i64 s1,slV f1 4 (Za l1)]::Za xr)=slV true 4 (Za (.mk k1 n1 s1 f1 l1::xr)):=(Zm _ _ _ _).symm
   have ey:PV.sl .none 4 ([.int .i64 k2,.str n2,.int .i64 s2,slV f2 4 (Za l2)]::Za yr)=slV true 4 (Za (.mk k2 n2 s2 f2 l2::yr)):=(Zm _ _ _ _).symm
   by_cases h1:c<0
   · rw [if_pos h1] at hp
     clear hap2 hA2
     repeat' first|refine Jk ?_|refine Jt ?_|refine Jb ?_ ?_|refine Jo ?_|refine Jd (hc _) ?_|refine JB ?_|(apply dAp;rfl;rfl;rfl;rfl;rfl;(first|assumption|solve_by_elim);rfl)|(apply dSl;rfl;rfl;rfl;rfl;rfl;rfl;assumption;exact IsV.any _;rfl)|refine Jh ?_|(apply Wp.draw tOk follows;kernel_rfl)|intro hb
     all_goals first
      | (exfalso;simp only [decide_eq_true_eq,decide_eq_false_iff_not] at *;omega)
      | (exfalso;simp at hb;done)
      | exact DropQ.go [(5, o1), (0, slV false 4 (Za xr)), (1, slV true 4 (Za (.mk k2 n2 s2 f2 l2 :: yr)))] ⟨rfl, (Yb _ _).symm, ey, trivial⟩ (by simp [hA1.under, Zh]) rfl rfl
          (LoopI.go (m-1) (by omega) ⟨xr,.mk k2 n2 s2 f2 l2::yr,d++ [.mk k1 n1 s1 f1 l1],false,true,_,o1,lv1,nt1,by simp only [List.length_cons];omega,by omega,hx.tail,hy,by rw [hp];simp,hA1,rfl,rfl⟩)
   · rw [if_neg h1] at hp
     clear hap1 hA1
     by_cases h2:0<c
     · rw [if_pos h2] at hp
       repeat' first|refine Jk ?_|refine Jt ?_|refine Jb ?_ ?_|refine Jo ?_|refine Jd (hc _) ?_|refine JB ?_|(apply dAp;rfl;rfl;rfl;rfl;rfl;(first|assumption|solve_by_elim);rfl)|(apply dSl;rfl;rfl;rfl;rfl;rfl;rfl;assumption;exact IsV.any _;rfl)|refine Jh ?_|(apply Wp.draw tOk follows;kernel_rfl)|intro hb
       all_goals first
        | (exfalso;simp only [decide_eq_true_eq,decide_eq_false_iff_not] at *;omega)
        | (exfalso;simp at hb;done)
        | exact DropQ.go [(5, o2), (0, slV true 4 (Za (.mk k1 n1 s1 f1 l1 :: xr))), (1, slV false 4 (Za yr))] ⟨rfl, ex, (Yb _ _).symm, trivial⟩ (by simp [hA2.under, Zh]) rfl rfl
            (LoopI.go (m-1) (by omega) ⟨.mk k1 n1 s1 f1 l1::xr,yr,d++ [.mk k2 n2 s2 f2 l2],true,false,_,o2,lv2,nt2,by simp only [List.length_cons];omega,by omega,hx,hy.tail,by rw [hp];simp,hA2,rfl,rfl⟩)
     · rw [if_neg h2] at hp
       clear hap2 hA2
       repeat' first|refine Jk ?_|refine Jt ?_|refine Jb ?_ ?_|refine Jo ?_|refine Jd (hc _) ?_|refine JB ?_|(apply dSl;rfl;rfl;rfl;rfl;rfl;rfl;assumption;exact IsV.any _;rfl)|refine Jh ?_|(apply Wp.draw tOk follows;kernel_rfl)|intro hb
       all_goals first
        | (exfalso;simp only [decide_eq_true_eq,decide_eq_false_iff_not] at *;omega)
        | (exfalso;simp at hb;done)
        | exact DropQ.go [(5, out), (0, slV false 4 (Za xr)), (1, slV false 4 (Za yr))] ⟨rfl, (Yb _ _).symm, (Yb _ _).symm, trivial⟩ (by simp [hA.under, Zh]) rfl rfl
            (LoopI.go (m-2) (by omega) ⟨xr,yr,d,false,false,_,out,lv,nt,by omega,by omega,hx.tail,hy.tail,hp,hA,rfl,rfl⟩)
theorem Zu3 (ht:t.Ok):t.size≤100000→∀ H,CallOk E0 Tryz.prog 216 [.agg t.cells] H (slV true 4 (Za t.sumP)) H:=by
 induction ht with
 | @mk k nm s b kz hk hs hn hl hok ih=>
 intro hsz
 simp only [Tm.size] at hsz
 refine ZH (own:=fun _=>false) tOk fe216.ok (by simp [Zx,frzG,Tm.cells,Xq]) (ZK _ _ _ _ _) ?_
 by_cases hx:k=3∧nm=Zba
 · obtain ⟨rfl, rfl⟩ := hx
   rw [Tm.sumP,if_neg (fun h=>absurd h.2.1 (by decide)),if_pos ⟨rfl,rfl⟩]
   simp only [Tm.cells,Zba]
   have hkl:=Yy kz
   have hkid:SmL kz:=fun t ht=>⟨hok t ht,by have:=Z7 ht;omega⟩
   refine Wp.seq ?_
   repeat' first|refine Jk ?_|refine Jl ?_|refine Jt ?_|refine Jo ?_|fail
   refine Wp.while (fun m tm H => ∃ (i : Nat) (base : TM), i + m = kz.length ∧
     tm=ovr base [(1,.ptr 0 4 0 0),(3,slV true 4 (Za (ZY (kz.take i) []))),(31,slV b 4 (Za kz)),(32,.int .i64 (kz.length:Int)),(33,.int .i64 (i:Int))]∧H=⟨[.cells 4 [[.int .i64 3,.str [120,111,114],.int .i64 s,slV b 4 (Za kz)]]],0,[],0⟩)
    (fun m tm H hI=>Wp.drop ?_) kz.length _ _ ⟨0,_,by omega,Zf ⟨rfl,(by simp only [List.take_zero,ZY,Za,Zg];rfl),rfl,Ze (by rw [Zb]),rfl,trivial⟩,rfl⟩
   obtain ⟨i,base,hi,rfl,rfl⟩:=hI
   have h1:=Xn (kz.take i) []
   have h2:=ZL kz i
   simp only [List.length_nil] at h1
   by_cases hlt:i<kz.length
   · obtain ⟨t', ht'⟩ : ∃ t', kz[i]? = some t' := ⟨kz[i], by simp⟩
     have hm:t'∈kz:=List.mem_of_getElem? ht'
     have hle:=Z7 hm
     have hsn:=WL [] ht'
     have h3:=UN t'
     have hc:=ih t' hm (by omega)
     have hp:=Zui (hkid.take i).sumL (SmL.sum (hok t' hm) (by omega)) (by omega) true true
     rw [← hsn] at hp
     obtain ⟨k',nm',s',b',kz'⟩:=t'
     have hj:=Zk ht'
     simp only [Tm.cells] at hc
     repeat' first|refine Jc (hc _) ?_|refine Jc (hp _) ?_|refine Jx ?_|refine Jz ?_ ?_|refine Jo ?_|intro hb
     all_goals first
      | (exfalso;simp at hb<;>omega)
      | exact DropQ.go [(1, .ptr 0 4 0 0), (3, slV true 4 (Za (ZY (kz.take (i + 1)) []))), (31, slV b 4 (Za kz)), (32, .int .i64 (kz.length : Int)), (33, .int .i64 ((i + 1 : Nat) : Int))] ⟨rfl, rfl, rfl, rfl, Ze (Zd (n := i + 1) (by omega)), trivial⟩
          (by simp [Zh,under]) rfl (by simp [YJ,ZM,under,Zh]) (LoopI.go (m-1) (by omega) ⟨i+1,_,by omega,rfl,rfl⟩)
   · have e : i = kz.length := by omega
     subst e
     repeat' first|refine Jz ?_ ?_|refine Jo ?_|intro hb
     · exfalso;simp at hb
     · rw [List.take_length]
       exact ZK _ _ _ _ _
 · rw [Tm.sumP]
   by_cases hz:k=3∧nm=VA∧kz= []
   · obtain ⟨rfl, rfl, rfl⟩ := hz
     rw [if_pos ⟨rfl,rfl,rfl⟩]
     simp only [Tm.cells,VA]
     refine Wp.seq ?_
     cases b
     all_goals
      repeat' first|refine Jl ?_|refine Jt ?_|refine Jo ?_|fail
      simp only [Za,Zg]
      rfl
   · rw [if_neg hz, if_neg hx]
     have e:slV true 4 (Za [.mk k nm s b kz])= .sl .none 4 [[.int .i64 k,.str nm,.int .i64 s,slV b 4 (Za kz)]]:=Zm _ _ _ _
     rw [e]
     simp only [Tm.cells]
     refine Wp.seq ?_
     repeat' first|refine Jk ?_|refine Js ?_|refine Jl ?_|refine Jt ?_|refine Jb ?_ ?_|refine Jo ?_|intro hb
     all_goals first
      | rfl
      | (exfalso;clear ih;simp_all [Zba,VA,Zb])
open Go.RowKit Go.Lib
theorem Zti (n : Nat) (h0 : 0 < n) (hn : n ≤ 1000000) (w : World) :
  Calls Tryz.prog 228 #[.slice none 0 0,.int .i64 (n:Int)] w fun e w'=>∃ (G:Nat) (ROW:Array Value),n≤G∧G≤9223372036854775807∧ROW.size=G*4∧e= .returned (.slice (some ⟨w.heap.size,0,none⟩) 0 G)∧w'=w.drew.alloc (.cells ROW 48):=by
 have mixed:=follows
 have hsz:(Tryz.prog.info? 48).map (·.size)=some 4:=by kernel_rfl
 have hbz:(Tryz.prog.info? 48).map (fun i=>(Nat.ble i.bytes 1000,i.zero.isSome,(i.zero.map (·.cells.size))))=some (true,true,some 4):=by kernel_rfl
 obtain ⟨i0,hi0⟩:∃ i,Tryz.prog.info? 48=some i:=by
  cases hq:Tryz.prog.info? 48 with
  | none=>simp [hq] at hsz
  | some i=>exact ⟨i,rfl⟩
 have hzs:i0.size=4:=by simpa [hi0] using hsz
 simp only [hi0,Option.map_some,Option.some.injEq,Prod.mk.injEq] at hbz
 obtain ⟨hb0,hz0,hz7⟩:=hbz
 obtain ⟨z,hz0⟩:=Option.isSome_iff_exists.1 hz0
 have hz7:z.cells.size=4:=by simpa [hz0] using hz7
 have hbytes:i0.bytes≤1000:=Nat.le_of_ble_eq_true hb0
 have hbig:n*i0.bytes≤1000000000:=Nat.le_trans (Nat.mul_le_mul hn hbytes) (by decide)
 have hw1:IntKind.i64.wrap ((0:Int)-0)=0:=rfl
 have hw2:IntKind.i64.wrap ((n:Int)-0)=(n:Int):=by rw [IntKind.wrap_i64];omega
 have hrz : ∀ ty, (Builtin.append_ #[29, 3] ty #[.slice none 0 0, .int .i64 (n : Int)]).run Tryz.prog w =
   .ok (.slice (some ⟨w.heap.size,0,none⟩) n (grownCap w n 0 48)) (w.drew.alloc (.cells (#[]++Builtin.zeroCells z.cells n++Builtin.zeroCells z.cells (grownCap w n 0 48-n)) 48)):=fun ty=>by
  have h:=Lib.run_append_grow_zeros w 29 3 ty 48 i0 z .i64 .i64 Tryz.underlying29 Tryz.underlying3 hi0 hz0 none 0 0 [] (run_firstCells_none w.drew i0.size 0 0 0) n h0 (by omega) (by omega) (by omega) (by omega)
   (by rw [Nat.zero_add];exact growslice_fits (by omega) (by omega))
  rw [Nat.zero_add] at h
  exact h
 obtain ⟨G,hG⟩:∃ G,G=grownCap w n 0 48:=⟨_,rfl⟩
 obtain ⟨ROW,hROW⟩:∃ ROW:Array Value,ROW= #[]++Builtin.zeroCells z.cells n++Builtin.zeroCells z.cells (G-n):=⟨_,rfl⟩
 rw [← hG] at hrz
 rw [← hROW] at hrz
 have hGn:n≤G:=by rw [hG];exact grownCap_ge w _ _ _
 have hG63:G≤9223372036854775807:=by
  have:=grownCap_le_maxLen w n 0 48 (by unfold maxLen;omega)
  rw [← hG] at this
  unfold maxLen at this
  omega
 have hRs:ROW.size=G*4:=by
  rw [hROW]
  simp [Builtin.zeroCells,hz7]
  omega
 have h1:¬ ((n:Int)<0):=by omega
 have h4:(n:Int) > 0:=by omega
 clear hG hROW hbig
 go_enter Tryz.func228,Tryz.ntmps228
 go_wp2_with (at_builtin;refine Lib.wpList_append_run _ rfl _ _ _ _ rfl _ _ rfl rfl _ _ (hrz _) ?_)
 all_goals (go_ret;first|exact ⟨G,ROW,hGn,hG63,hRs,rfl,rfl⟩|exact ⟨G,hGn,hG63,ROW,hRs,rfl,rfl⟩)
theorem ZlF (h0:0<n) (hn:n≤1000000):CallOk E0 Tryz.prog 228 [.nils,.int .i64 (n:Int)] hNil (.own 0 4 0 0) ⟨[.cells 4 []],0,[],0⟩:=by
 intro g w vals hi hg hv
 obtain ⟨v0,v1,rfl,a0,a1⟩:=VO hv
 obtain rfl:=a0.nils_inv
 obtain rfl:=a1.int_inv
 have hf:FnOk Tryz.prog 228 fe228.fn fe228.c:=fe228.ok
 rw [ZN hf]
 simp only [UponCall]
 refine Calls.mono (Zti n h0 hn w) fun e w' ⟨G,ROW,g1,g2,g3,he,hw'⟩=>?_
 subst he
 subst hw'
 have hi1:Inv g hNil w.drew:=hi.same rfl
 obtain ⟨i1,k1⟩:=VT hi1 (.cells ROW 48) (.cells 4 []) rfl (fun es el h=>by cases h;exact ⟨ROW,48,rfl,fun i hi=>absurd hi (by simp),by simp,fun i hi=>absurd hi (by simp)⟩) (fun es h=>by cases h) (G*4) (fun c T m h=>by cases h;omega)
 have k0:Keep g hNil w g hNil w.drew:= .same rfl (.rfls)
 refine ⟨_,rfl,_,.own 0 4 0 0 w.heap.size G _ (by simp [Gh.link,hNil]) (Nat.zero_le _) (fun _=>by simp) rfl ⟨by simp [Gh.link,hNil],g2⟩,i1,KeepN.then k0 hi k1⟩
theorem Zpv (w:World):Calls Tryz.prog 228 #[.slice none 0 0,.int .i64 0] w fun e w'=>e= .returned (.slice none 0 0)∧w'=w:=by
 have mixed:=follows
 have hw1:IntKind.i64.wrap ((0:Int)-0)=0:=rfl
 go_enter Tryz.func228,Tryz.ntmps228
 go_wp2
 all_goals (go_ret;exact ⟨rfl,rfl⟩)
theorem ZrQ:CallOk E0 Tryz.prog 228 [.nils,.int .i64 0] hNil .nils hNil:=by
 intro g w vals hi hg hv
 obtain ⟨v0,v1,rfl,a0,a1⟩:=VO hv
 obtain rfl:=a0.nils_inv
 obtain rfl:=a1.int_inv
 have hf:FnOk Tryz.prog 228 fe228.fn fe228.c:=fe228.ok
 rw [ZN hf]
 simp only [UponCall]
 refine Calls.mono (Zpv w) fun e w' ⟨he,hw'⟩=>?_
 subst he
 subst hw'
 exact ⟨_,rfl,g,.pure _ _ .nils,hi,KeepN.refl _ _ _ _⟩
theorem WJ:∀ l:List Tm,Z8 (Za l)=some (Za l)
 | []=>rfl
 | .mk k nm s b kz :: r => by
   simp only [Za,Tm.cells,Z8,Xq,WJ r]
theorem Zma (H:Heap) (l:List Tm) (n k:Nat) (hk:k=l.length) (hn:l≠ []) (hH:nth H.bx n=some (.cells 4 (Za l))):frz3 0 H (.own n 4 0 k)=some (slV true 4 (Za l)):=by
 have hl:(Za l).length=k:=by rw [Zb,hk]
 have h1:((Za l).drop 0).take k=Za l:=by rw [List.drop_zero, ← hl,List.take_length]
 have e:slV true 4 (Za l)= .sl .none 4 (Za l):=by
  cases l with
  | nil=>exact absurd rfl hn
  | cons a r =>
    obtain ⟨k,nm,s,b,kz⟩:=a
    exact Zm _ _ _ _
 rw [e]
 show frzC 0 H (.own n 4 0 k)=_
 simp only [frzC,Nat.not_lt_zero,if_false,hH,true_and,Nat.zero_add,hl,Nat.le_refl,if_true,h1,WJ]
theorem ZnP {M : List Tm} (hn : L.length = n) (hb : bx[k]? = some (.cells 4 (Za L))) (hM : M ≠ []) (hl : n + M.length ≤ 1000000) (b : Bool) :
  ZA E0 29 29 (.own k 4 0 n) (slV b 4 (Za M)) ⟨bx,0,[],0⟩=some (.own bx.length 4 0 (n+M.length),⟨bx.set k .dead++ [.cells 4 (Za (L++M))],0,[],0⟩):=by
 have hs:YN ⟨bx,0,[],0⟩ (.own k 4 0 n)=some (Za L):=by
  have hnth:nth bx k=some (.cells 4 (Za L)):=(Zo _ _).trans hb
  simp only [YN,hnth]
  rw [if_pos ⟨trivial,by rw [Zb];omega⟩,List.drop_zero, ← hn, ← Zb L,List.take_length,WJ]
 have he:=ZQ (s:= .own k 4 0 n) Yh (ElV.slV b 4 (Za M)) (Zn _) rfl rfl ⟨bx,0,[],0⟩
 have hM2:=Zb M
 cases hE:Za M with
 |nil=>rw [hE] at hM2;exact absurd (List.length_eq_zero_iff.1 hM2.symm) hM
 | cons y yr =>
   rw [hE] at he hM2
   simp only [ZA,he,Yu,Wj,hs]
   rw [if_pos ⟨trivial,Nat.zero_le _,by rw [Zb,hn],ZD (by rw [Zb,hM2];omega) (by decide)⟩,Zb,hM2,hn,Zt,hE]
theorem ZmT (b:Bool):ZA E0 29 29 (.own k 4 0 n) (slV b 4 (Za [])) ⟨bx,0,[],0⟩=some (.own k 4 0 n,⟨bx,0,[],0⟩):=by
 have he:=ZQ (s:= .own k 4 0 n) Yh (ElV.slV b 4 (Za [])) (Zn _) rfl rfl ⟨bx,0,[],0⟩
 simp only [ZA,he]
 rfl
theorem ZtM (hl:a.length+b.length≤1000000) (ba bb:Bool):∀ H,CallOk E0 Tryz.prog 222 [.sl .none 1 [[slV ba 4 (Za a)],[slV bb 4 (Za b)]]] H (slV true 4 (Za (a++b))) H:=by
 refine Jw tOk fe222.ok (ZK _ _ _ _ _) ?_
 have b1:Xo E0 .add 3 (.int .i64 0) (.int .i64 ((Za a).length:Int))=some (.int .i64 (a.length:Int)):=by
  rw [Zb]
  show some (PV.int .i64 (IntKind.i64.wrap (0+(a.length:Int))))=_
  rw [IntWalk.i64_in _ (by omega),Int.zero_add]
 have b2:Xo E0 .add 3 (.int .i64 (a.length:Int)) (.int .i64 ((Za b).length:Int))=some (.int .i64 ((a.length+b.length:Nat):Int)):=by
  rw [Zb]
  show some (PV.int .i64 (IntKind.i64.wrap ((a.length:Int)+(b.length:Int))))=_
  rw [IntWalk.i64_in _ (by omega)]
  congr 2
 have b3:Xo E0 .lss 3 (.int .i64 (a.length:Int)) (.int .i64 0)=some (.bool false):=by
  show some (PV.bool (decide ((a.length:Int)<0)))=_
  rw [decide_eq_false (by omega)]
 have b4:Xo E0 .lss 3 (.int .i64 ((a.length+b.length:Nat):Int)) (.int .i64 0)=some (.bool false):=by
  show some (PV.bool (decide (((a.length+b.length:Nat):Int)<0)))=_
  rw [decide_eq_false (by omega)]
 have go1:=ZlF (n:=a.length+b.length)
 by_cases h0:a.length+b.length=0
 · have ea : a = [] := List.length_eq_zero_iff.1 (by omega)
   have eb:b= []:=List.length_eq_zero_iff.1 (by omega)
   rw [h0] at b2 b4
   have hg:=ZrQ
   clear go1 h0
   subst ea eb
   have hap:∀ f,ZA E0 29 29 .nils (slV f 4 (Za [])) hNil=some (.nils,hNil):=fun f=>by
    have he:=ZQ (s:= .nils) Yh (ElV.slV f 4 (Za [])) (Zn _) rfl rfl hNil
    simp only [ZA,he]
    rfl
   have hap1:=hap ba
   have hap2:=hap bb
   rw [show slV true 4 (Za ([]++ []))= .nils from Zg 4]
   repeat' first|refine Jo ?_|fail
   refine Wp.loop ?_
   repeat' first|refine Ji ?_|refine Jl ?_|(apply qT (ty:=0);rfl;rfl;rfl)|refine Jo ?_|fail
   refine LoopQ.go ?_
   refine Wp.loop ?_
   repeat' first|refine Ji ?_|refine Jl ?_|(apply qT (ty:=0);rfl;rfl;rfl)|refine Jo ?_|fail
   refine LoopQ.go ?_
   refine Wp.loop ?_
   repeat' first|refine Ji ?_|refine Jo ?_|fail
   refine LoopQ.exit ?_
   repeat' first|refine Jc hg ?_|refine Jo ?_|fail
   refine Wp.loop ?_
   repeat' first|refine JA ?_|(apply qT (ty:=0);rfl;rfl;rfl)|refine Jo ?_|fail
   refine LoopQ.go ?_
   refine Wp.loop ?_
   repeat' first|refine JA ?_|(apply qT (ty:=0);rfl;rfl;rfl)|refine Jo ?_|fail
   refine LoopQ.go ?_
   refine Wp.loop ?_
   repeat' first|refine Ji ?_|refine Jo ?_|fail
   refine LoopQ.exit ?_
   repeat' first|refine Jo ?_|fail
   rfl
 · have hg := go1 (by omega) hl
   clear go1
   obtain ⟨A,lA,hapA,hA⟩:∃ (A:Nat) (bx:List Box),ZA E0 29 29 (.own 0 4 0 0) (slV ba 4 (Za a)) ⟨[.cells 4 []],0,[],0⟩=some (.own A 4 0 a.length,⟨bx,0,[],0⟩)∧bx[A]? = some (.cells 4 (Za a)):=by
    by_cases e:a= []
    · subst e
      exact ⟨0,_,ZmT ba,rfl⟩
    · have := ZnP (bx := [.cells 4 []]) (k := 0) (L := []) (M := a) (n := 0) rfl rfl e (by omega) ba
      rw [Nat.zero_add] at this
      exact ⟨_,_,this,rfl⟩
   obtain ⟨B,lB,hapB,hB⟩:∃ (B:Nat) (bx:List Box),ZA E0 29 29 (.own A 4 0 a.length) (slV bb 4 (Za b)) ⟨lA,0,[],0⟩=some (.own B 4 0 (a.length+b.length),⟨bx,0,[],0⟩)∧bx[B]? = some (.cells 4 (Za (a++b))):=by
    by_cases e:b= []
    · subst e
      refine ⟨A,lA,?_,by rw [List.append_nil];exact hA⟩
      rw [ZmT]
      rfl
    · exact ⟨_,_,ZnP rfl hA e hl bb,by rw [List.getElem?_append_right (by simp)];simp⟩
   have hfr:∀ m,frz3 m ⟨lB,0,[],0⟩ (.own B 4 0 (a.length+b.length))=frz3 m ⟨lB,0,[],0⟩ (.own B 4 0 (a.length+b.length)):=fun _=>rfl
   have hfr:=Zma ⟨lB,0,[],0⟩ (a++b) B (a.length+b.length) (by simp) (fun e=>h0 (by rw [← List.length_append,e];rfl)) ((Zo _ _).trans hB)
   repeat' first|refine Jo ?_|fail
   refine Wp.loop ?_
   repeat' first|refine Ji ?_|refine Jl ?_|(apply qT (ty:=0);rfl;rfl;rfl)|refine Jo ?_|fail
   refine LoopQ.go ?_
   refine Wp.loop ?_
   repeat' first|refine Ji ?_|refine Jl ?_|(apply qT (ty:=0);rfl;rfl;rfl)|refine Jo ?_|fail
   refine LoopQ.go ?_
   refine Wp.loop ?_
   repeat' first|refine Ji ?_|refine Jo ?_|fail
   refine LoopQ.exit ?_
   repeat' first|refine Jc hg ?_|refine Jo ?_|fail
   refine Wp.loop ?_
   repeat' first|refine JA ?_|(apply qT (ty:=0);rfl;rfl;rfl)|refine Jo ?_|fail
   refine LoopQ.go ?_
   refine Wp.loop ?_
   repeat' first|refine JA ?_|(apply qT (ty:=0);rfl;rfl;rfl)|refine Jo ?_|fail
   refine LoopQ.go ?_
   refine Wp.loop ?_
   repeat' first|refine Ji ?_|refine Jo ?_|fail
   refine LoopQ.exit ?_
   repeat' first|refine Jo ?_|fail
   exact hfr
theorem Zfy {a b:Bool} (h:a=true↔b=true):PV.bool a=PV.bool b:=by rw [Bool.eq_iff_iff.2 h]
theorem Zt3 (c:Int):∀ H,CallOk E0 Tryz.prog 143 [.int .u8 c] H (.bool (Ze4 c)) H:=by
 refine Jw tOk fe143.ok rfl ?_
 repeat' first|refine Jk ?_|refine Jt ?_|refine Jb ?_ ?_|refine Jo ?_|intro hb
 all_goals
  refine Zfy ?_
  simp [Ze4,Zgi,ZoP] at *
  try omega
theorem c93 (c:Int):∀ H,CallOk E0 Tryz.prog 93 [.int .u8 c] H (.bool (Zgi c)) H:=by
 refine Jw tOk fe93.ok rfl ?_
 repeat' first|refine Jk ?_|refine Jt ?_|refine Jb ?_ ?_|refine Jo ?_|intro hb
 all_goals
  refine Zfy ?_
  simp [Zgi] at *
  try omega
theorem c94 (c:Int):∀ H,CallOk E0 Tryz.prog 94 [.int .u8 c] H (.bool (ZoP c)) H:=by
 refine Jw tOk fe94.ok rfl ?_
 repeat' first|refine Jk ?_|refine Jt ?_|refine Jb ?_ ?_|refine Jo ?_|intro hb
 all_goals
  refine Zfy ?_
  simp [ZoP] at *
  try omega
theorem Ua (h:s[i]? = some x) (hx:Ws x=false):s.all Ws=false:=by
 rw [List.all_eq_false]
 exact ⟨x,List.mem_of_getElem? h,by simp [hx]⟩
theorem Zbx (c:UInt8) (r:List UInt8):YB (c::r)=(decide ((c::r).length≤24)&&(Zgi (Int.ofNat c.toNat)&&(c::r).all Ws)):=rfl
theorem ZjJ {c:Int} (h:Ze4 c=true) (h1:¬ (48≤c∧c≤57)) (h2:c≠95) (h3:c≠35):Zgi c=true:=by
 simp [Ze4,Zgi,ZoP] at *
 omega
theorem eTs:E0.T 9=some ⟨.string,1,16,.str []⟩:=rfl
theorem ZpC {c:UInt8} (h:s[i]? = some c):Qz E0 9 (.str s) (.int .i64 (i:Int))=some (.int .u8 (c.toNat:Int)):=by
 have en:nat? (.int .i64 (i:Int))=some i:=rfl
 have hn:nth s i=some c:=by rw [Zo];exact h
 simp only [Qz,eTs,en,hn]
 rfl
theorem Zag {a b c:Bool} (h:a=false∨b=false∨c=false):PV.bool false=PV.bool (a&&(b&&c)):=by
 rcases h with rfl|rfl|rfl<;>simp
theorem ZgP (h:s[i]? = some x) (hx:Ws x=true) (ht:(s.take i).all Ws=true):(s.take (i+1)).all Ws=true:=by
 rw [List.take_add_one,h]
 simp [List.all_append,ht,hx]
theorem ZuP (s:List UInt8) (hs:s.length≤maxLen):∀ H,CallOk E0 Tryz.prog 117 [.str s] H (.bool (YB s)) H:=by
 refine Jw tOk fe117.ok rfl ?_
 cases s with
 | nil =>
   repeat' first|refine Jk ?_|refine Jt ?_|refine Jo ?_|fail
   all_goals first
    | rfl
    | (exfalso;simp at hb;done)
 | cons c r =>
   have hc:=Zt3 (Int.ofNat c.toNat)
   obtain ⟨S,hS⟩:∃ S,S=Ze4 (Int.ofNat c.toNat):=⟨_,rfl⟩
   have hj:=ZpC (show (c::r)[0]? = some c from rfl)
   rw [Zbx]
   obtain ⟨s,hss⟩:∃ s,s=c::r:=⟨_,rfl⟩
   rw [← hss] at hs hj ⊢
   have hne:¬ s= []:=by rw [hss];simp
   have hm:c∈s:=by rw [hss];simp
   have hall:S=false→s.all Ws=false:=fun h=>by
    rw [List.all_eq_false]
    exact ⟨c,hm,by rw [show Ws c=S from hS.symm,h];simp⟩
   rw [← hS] at hc
   repeat' first|refine Jk ?_|refine Jc (hc _) ?_|refine JX ?_|refine Jt ?_|refine Jb ?_ ?_|refine Jo ?_|intro hb
   all_goals first
    | (exfalso;simp at hb;exact hne hb)
    | (refine Zag (.inl ?_);simp at hb;simp;omega)
    | (refine Zag (.inr (.inr (hall (by simpa using hb))));done)
    | (refine Zag (.inr (.inl ?_));clear hc hall hj hS hm hne hss;simp [Zgi] at *;omega)
    | skip
   all_goals
    have f1:S=true:=by simpa using ‹(!S)=false›
    have f2:¬ (48≤(c.toNat:Int)∧(c.toNat:Int)≤57):=by
     first
      | (have:= ‹decide ((c.toNat:Int)≤57)=false›;simp at this;omega)
      | (have:= ‹decide (48≤(c.toNat:Int))=false›;simp at this;omega)
    have f3:(c.toNat:Int)≠95:=by simpa using ‹((c.toNat:Int)==95)=false›
    have f4:(c.toNat:Int)≠35:=by simpa using ‹((c.toNat:Int)==35)=false›
    have hlt:Zgi (Int.ofNat c.toNat)=true:=ZjJ (hS ▸ f1) f2 f3 f4
    have h24:s.length≤24:=by
     have:= ‹decide (24<Int.ofNat s.length)=false›
     simp at this;omega
    rw [show (decide (s.length≤24)&&(Zgi (Int.ofNat c.toNat)&&s.all Ws))=s.all Ws by simp only [h24,hlt,decide_true,Bool.true_and]]
    refine Wp.while (fun m tm H=>∃ (i:Nat),∃ base,i+m=s.length∧(s.take i).all Ws=true∧tm=ovr base [(0,.str s),(38,.int .i64 (s.length:Int)),(39,.int .i64 (i:Int))]∧H=⟨[],0,[],0⟩)
     (fun m tm H hI=>?_) s.length _ _ ⟨0,_,by omega,by simp,Zf ⟨rfl,rfl,rfl,trivial⟩,rfl⟩
    clear hc hall hj
    obtain ⟨i,base,hi,hall,rfl,rfl⟩:=hI
    by_cases hlt2:i<s.length
    · obtain ⟨d, hd⟩ : ∃ d, s[i]? = some d := ⟨s[i], by simp⟩
      have hj:=ZpC hd
      have hc:=Zt3 (Int.ofNat d.toNat)
      obtain ⟨D,hD⟩:∃ D,D=Ze4 (Int.ofNat d.toNat):=⟨_,rfl⟩
      rw [← hD] at hc
      repeat' first|refine Jc (hc _) ?_|refine JX ?_|refine Jt ?_|refine Jb ?_ ?_|refine Jo ?_|intro hb
      · rw [Ua hd (by rw [show Ws d=D from hD.symm];simpa using hb)]
      · refine LoopI.go (m - 1) (by omega) ⟨i + 1, _, by omega, ZgP hd (by rw [show Ws d = D from hD.symm]; simpa using hb) hall, Zf ⟨rfl, rfl, ?_, trivial⟩, rfl⟩
        exact Ze (Zd (n:=i+1) (by unfold maxLen at hs;omega))
      · exfalso;simp at hb;omega
    · have e : i = s.length := by omega
      subst e
      repeat' first|refine Jt ?_|refine Jb ?_ ?_|refine Jo ?_|intro hb
      · exfalso;simp at hb
      · rw [← hall,List.take_length]
