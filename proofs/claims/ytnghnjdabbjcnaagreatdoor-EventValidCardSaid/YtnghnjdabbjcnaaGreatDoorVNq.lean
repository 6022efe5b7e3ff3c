/-
  slices.Concat at two lists of terms.
-/
import Derived.Test.YtnghnjdabbjcnaaGreatDoorVEp
import Derived.Test.YtnghnjdabbjcnaaGreatDoorVFi
import Derived.Shelf.Spec.SlicesGrow
set_option maxHeartbeats 0
set_option maxRecDepth 100000
namespace Go.Vm.Seat
variable {t:Tm} {L a b:List Tm} {out:PV} {lv:List Nat} {k n nt:Nat} {bx:List Box}
open Go.Proofs
theorem Zpy (c:List PV) (r:List (List PV)):Yf E0 30 (.sl .none 4 (c::r)) (some (.int .i64 1)) none none=some (.sl .none 4 r):=by
 have e1:E0.T 30=some ⟨.slice 39,1,24,.nils⟩:=by kernel_rfl
 have e2:E0.T 39=some ⟨.struct [(0,3),(1,9),(2,3),(3,30)],4,56,.agg [.int .i64 0,.str [],.int .i64 0,.nils]⟩:=by kernel_rfl
 have h1:nat? (.int .i64 1)=some 1:=rfl;simp only[Yf,e1,e2,if_true,ZbK,XP,h1,Zcz,ite_self];rw[if_pos (by simp)];simp
theorem ZqF {u:Tm} (ht:t.Ok∧t.size≤100000) (hu:u.Ok∧u.size≤100000):∀H,CO 35 [.agg t.cells,.agg u.cells] H (.int .i64 (t.cmp u)) H:=fun H=>
 Zqa (d35 ht.1 hu.1 (by have:=ht.2;omega) (by have:=hu.2;omega) H)
theorem Zel (hA:ApV true 4 (Za L) out lv nt) (x:Tm) (hL:L.length≤1000000):∃out' lv' nt',(∀bx ro,ZP E0 30 30 out (.sl .full 4 [x.cells]) ⟨bx,ro,lv,nt⟩=some (out',⟨bx,ro,lv',nt'⟩))∧ApV true 4 (Za (L++ [x])) out' lv' nt':=by obtain⟨out',lv',nt',hap,hA', -⟩:=hA.app YB (.sl .full 4 (Za [x])) (Zr _) (ZR (by simp only[Zb,List.length_cons,List.length_nil];omega) (by decide)) (Z0 _);rw[← Zs]at hA';exact⟨out',lv',nt',hap,hA'⟩
theorem Zk6 (hA:ApV true 4 (Za L) out lv nt) (M:List Tm) (b:Bool) (hL:L.length+M.length≤1000000):∃out' lv' nt',(∀bx ro,ZP E0 30 30 out (slV b 4 (Za M)) ⟨bx,ro,lv,nt⟩=some (out',⟨bx,ro,lv',nt'⟩))∧ApV true 4 (Za (L++M)) out' lv' nt':=by obtain⟨out',lv',nt',hap,hA', -⟩:=hA.app YB (.slV b 4 (Za M)) (Zr _) (ZR (by simp only[Zb];omega) (by decide)) (Z0 _);rw[← Zs]at hA';exact⟨out',lv',nt',hap,hA'⟩
theorem ZtU (ha:SmL a) (hb':SmL b) (hl:a.length+b.length≤1000000) (ba bb:Bool):∀H,CO 219 [slV ba 4 (Za a),slV bb 4 (Za b)] H (slV true 4 (Za (Yb a b))) H:=by
 refine Jw tOk fe219.ok (ZJ _ _ _ _ _) ?_;repeat' first|refine Jo ?_|fail
 refine Wp.while (fun m tm H => ∃(x y d : List Tm) (b1 b2 : Bool) (base : TM) (out : PV) (lv : List Nat) (nt : Nat), x.length + y.length = m ∧ d.length + m ≤ 1000000 ∧ SmL x ∧ SmL y ∧ Yb a b = d ++ Yb x y ∧ ApV true 4 (Za d) out lv nt ∧
   tm=ovr base [(5,out),(0,slV b1 4 (Za x)),(1,slV b2 4 (Za y))]∧H=⟨[],0,lv,nt⟩)
  (fun m tm H hI=>Wp.drop ?_) (a.length+b.length) _ _ ⟨a,b,[],ba,bb,_,_,_,_,rfl,by simpa using hl,ha,hb',by simp,.nil _ _ rfl,Ze ⟨rfl,rfl,rfl,trivial⟩,rfl⟩
 clear ha hb' hl;obtain⟨x,y,d,b1,b2,base,out,lv,nt,hm,hd,hx,hy,hp,hA,rfl,rfl⟩:=hI;match x,y,hx,hy,hm,hp with
 | [],y,hx,hy,hm,hp=>
  obtain⟨o1,lv1,nt1,hap1,hA1⟩:=Zk6 hA [] b1 (by simp at hm ⊢;omega);obtain⟨o2,lv2,nt2,hap2,hA2⟩:=Zk6 hA1 y b2 (by simp at hm ⊢;omega);rw[Yb]at hp;rw[hp];rw[List.append_nil]at hA2;cases b1;all_goals
   repeat' first|refine Jk ?_|refine JA ?_|refine KJ ?_|fail
   exact hA2.frz3 _ _
 |x::xr,[],hx,hy,hm,hp=>
  obtain⟨o1,lv1,nt1,hap1,hA1⟩:=Zk6 hA (x::xr) b1 (by simp at hm ⊢;omega);obtain⟨o2,lv2,nt2,hap2,hA2⟩:=Zk6 hA1 [] b2 (by simp at hm ⊢;omega);rw[Yb]at hp;rw[hp];rw[List.append_nil]at hA2;cases b2;all_goals
   repeat' first|refine Jk ?_|refine JA ?_|refine Kv ?_|refine Jb ?_ ?_|refine Jo ?_|intro hb
   all_goals first
    | exact hA2.frz3 _ _
    | (exfalso;simp at hb<;>omega)
 |x::xr,y::yr,hx,hy,hm,hp=>
  have hc:=ZqF hx.head hy.head;obtain⟨o1,lv1,nt1,hap1,hA1⟩:=Zel hA x (by omega);obtain⟨o2,lv2,nt2,hap2,hA2⟩:=Zel hA y (by omega);rw[Yb]at hp;have hl1:(d++ [x]).length=d.length+1:=by simp
  have hl2:(d++ [y]).length=d.length+1:=by simp
  generalize hcc:x.cmp y=c at hc hp;have ex:slV b1 4 (Za (x::xr))= .sl .none 4 (x.cells::Za xr):=Zp _ _ _ _;have ey:slV b2 4 (Za (y::yr))= .sl .none 4 (y.cells::Za yr):=Zp _ _ _ _;rw[ex,ey];clear hcc ex ey;simp only[List.length_cons]at hm;obtain⟨k1,n1,s1,f1,l1⟩:=x;obtain⟨k2,n2,s2,f2,l2⟩:=y;simp only[Tm.cells]at hc hap1 hap2 ⊢;have hs1:=Zpy [.int .i64 k1,.str n1,.int .i64 s1,slV f1 4 (Za l1)] (Za xr);have hs2:=Zpy [.int .i64 k2,.str n2,.int .i64 s2,slV f2 4 (Za l2)] (Za yr);have ex:PV.sl .none 4 ([.int .i64 k1,.str n1,.int .i64 s1,slV f1 4 (Za l1)]::Za xr)=slV true 4 (Za (.mk k1 n1 s1 f1 l1::xr)):=(Zp _ _ _ _).symm;have ey:PV.sl .none 4 ([.int .i64 k2,.str n2,.int .i64 s2,slV f2 4 (Za l2)]::Za yr)=slV true 4 (Za (.mk k2 n2 s2 f2 l2::yr)):=(Zp _ _ _ _).symm;by_cases h1:c<0
  ·rw[if_pos h1]at hp;clear hap2 hA2;(repeat' first|refine KM ?_|refine Jb ?_ ?_|refine Jo ?_|refine Jd (hc _) ?_|refine JB ?_|(apply dAp;rfl;rfl;rfl;rfl;rfl;(first|assumption|solve_by_elim);rfl)|refine Kh ?_|refine Kb ?_|intro hb);all_goals first
    | (exfalso;simp only[decide_eq_true_eq,decide_eq_false_iff_not]at *;omega)
    | (exfalso;simp at hb;done)
    | exact DropQ.go [(5, o1), (0, slV false 4 (Za xr)), (1, slV true 4 (Za (.mk k2 n2 s2 f2 l2 :: yr)))] ⟨rfl, (Z6 _ _).symm, ey, trivial⟩ (by simp[hA1.under, Zl]) rfl rfl
        (LoopI.go (m-1) (by omega) ⟨xr,.mk k2 n2 s2 f2 l2::yr,d++ [.mk k1 n1 s1 f1 l1],false,true,_,o1,lv1,nt1,by simp only[List.length_cons];omega,by omega,hx.tail,hy,by rw[hp];simp,hA1,rfl,rfl⟩)
  ·rw[if_neg h1]at hp;clear hap1 hA1;by_cases h2:0<c
   ·rw[if_pos h2]at hp;(repeat' first|refine KM ?_|refine Jb ?_ ?_|refine Jo ?_|refine Jd (hc _) ?_|refine JB ?_|(apply dAp;rfl;rfl;rfl;rfl;rfl;(first|assumption|solve_by_elim);rfl)|refine Kh ?_|refine Kb ?_|intro hb);all_goals first
     | (exfalso;simp only[decide_eq_true_eq,decide_eq_false_iff_not]at *;omega)
     | (exfalso;simp at hb;done)
     | exact DropQ.go [(5, o2), (0, slV true 4 (Za (.mk k1 n1 s1 f1 l1 :: xr))), (1, slV false 4 (Za yr))] ⟨rfl, ex, (Z6 _ _).symm, trivial⟩ (by simp[hA2.under, Zl]) rfl rfl
         (LoopI.go (m-1) (by omega) ⟨.mk k1 n1 s1 f1 l1::xr,yr,d++ [.mk k2 n2 s2 f2 l2],true,false,_,o2,lv2,nt2,by simp only[List.length_cons];omega,by omega,hx,hy.tail,by rw[hp];simp,hA2,rfl,rfl⟩)
   ·rw[if_neg h2]at hp;clear hap2 hA2;(repeat' first|refine KM ?_|refine Jb ?_ ?_|refine Jo ?_|refine Jd (hc _) ?_|refine JB ?_|refine Kh ?_|refine Kb ?_|intro hb);all_goals first
     | (exfalso;simp only[decide_eq_true_eq,decide_eq_false_iff_not]at *;omega)
     | (exfalso;simp at hb;done)
     | exact DropQ.go [(5, out), (0, slV false 4 (Za xr)), (1, slV false 4 (Za yr))] ⟨rfl, (Z6 _ _).symm, (Z6 _ _).symm, trivial⟩ (by simp[hA.under, Zl]) rfl rfl
         (LoopI.go (m-2) (by omega) ⟨xr,yr,d,false,false,_,out,lv,nt,by omega,by omega,hx.tail,hy.tail,hp,hA,rfl,rfl⟩)
theorem ZuQ (ht:t.Ok):t.size≤100000→∀H,CO 220 [.agg t.cells] H (slV true 4 (Za t.sumP)) H:=by
 induction ht with
 | @mk k nm s b kz hk hs hn hl hok ih=>
 intro hsz;simp only[Tm.size]at hsz;refine Yt (own:=fun _=>false) tOk fe220.ok (by simp[ZH,frzG,Tm.cells,XA]) (ZJ _ _ _ _ _) ?_;by_cases hx:k=3∧nm=ZbZ
 ·obtain⟨rfl,rfl⟩:=hx;rw[Tm.sumP,if_neg (fun h=>absurd h.2.1 (by decide)),if_pos ⟨rfl,rfl⟩];simp only[Tm.cells,ZbZ];have hkl:=Yl kz;have hkid:SmL kz:=fun t ht=>⟨hok t ht,by have:=Z4 ht;omega⟩;refine Wp.seq ?_;repeat' first|refine Jk ?_|refine KJ ?_|fail
  refine Wp.while (fun m tm H => ∃(i : Nat) (base : TM), i + m = kz.length ∧
    tm=ovr base [(1,.ptr 0 4 0 0),(3,slV true 4 (Za (ZS (kz.take i) []))),(31,slV b 4 (Za kz)),(32,.int .i64 (kz.length:Int)),(33,.int .i64 (i:Int))]∧H=⟨[.cells 4 [[.int .i64 3,.str [120,111,114],.int .i64 s,slV b 4 (Za kz)]]],0,[],0⟩)
   (fun m tm H hI=>Wp.drop ?_) kz.length _ _ ⟨0,_,by omega,Ze ⟨rfl,(by simp only[List.take_zero,ZS,Za,Zi];rfl),rfl,Zg (by rw[Zb]),rfl,trivial⟩,rfl⟩
  obtain⟨i,base,hi,rfl,rfl⟩:=hI;have h1:=Xg (kz.take i) [];have h2:=ZA kz i;simp only[List.length_nil]at h1;by_cases hlt:i<kz.length
  ·obtain⟨t', ht'⟩ : ∃t', kz[i]? = some t' := ⟨kz[i], by simp⟩;have hm:t'∈kz:=List.mem_of_getElem? ht';have hle:=Z4 hm;have hsn:=Ws [] ht';have h3:=UP t';have hc:=ih t' hm (by omega);have hp:=ZtU (hkid.take i).sumL (SmL.sum (hok t' hm) (by omega)) (by omega) true true;rw[← hsn]at hp;obtain⟨k',nm',s',b',kz'⟩:=t';have hj:=Zj ht';simp only[Tm.cells]at hc;(repeat' first|refine Jc (hc _) ?_|refine Jc (hp _) ?_|refine Jx ?_|refine Jz ?_ ?_|refine Jo ?_|intro hb);all_goals first
    | (exfalso;simp at hb<;>omega)
    | exact DropQ.go [(1, .ptr 0 4 0 0), (3, slV true 4 (Za (ZS (kz.take (i + 1)) []))), (31, slV b 4 (Za kz)), (32, .int .i64 (kz.length : Int)), (33, .int .i64 ((i + 1 : Nat) : Int))] ⟨rfl, rfl, rfl, rfl, Zg (Zd (n := i + 1) (by omega)), trivial⟩
        (by simp[Zl,under]) rfl (by simp[Yy,ZO,under,Zl]) (LoopI.go (m-1) (by omega) ⟨i+1,_,by omega,rfl,rfl⟩)
  {(have e:i=kz.length:=by omega);subst e;(repeat' first|refine Jz ?_ ?_|refine Jo ?_|intro hb);{exfalso;simp at hb};{rw[List.take_length];exact ZJ _ _ _ _ _}}
 ·rw[Tm.sumP];by_cases hz:k=3∧nm=VM∧kz= []
  ·obtain⟨rfl, rfl, rfl⟩ := hz;rw[if_pos ⟨rfl,rfl,rfl⟩];simp only[Tm.cells,VM];refine Wp.seq ?_;cases b;all_goals
    repeat' first|refine KJ ?_|fail
    simp only[Za,Zi]
    rfl
  ·rw[if_neg hz, if_neg hx];have e:slV true 4 (Za [.mk k nm s b kz])= .sl .none 4 [[.int .i64 k,.str nm,.int .i64 s,slV b 4 (Za kz)]]:=Zp _ _ _ _;rw[e];simp only[Tm.cells];refine Wp.seq ?_;(repeat' first|refine Jk ?_|refine Js ?_|refine Kv ?_|refine Jb ?_ ?_|refine Jo ?_|intro hb);all_goals first
    | rfl
    | (exfalso;clear ih;simp_all[ZbZ,VM,Zb])
open Go.RowKit Go.Lib
theorem Zss (n:Nat) (h0:0<n) (hn:n≤1000000) (w:World):Calls Tryz.prog 242 #[.slice none 0 0,.int .i64 (n:Int)] w fun e w'=>∃(G:Nat) (ROW:Array Value),n≤G∧G≤9223372036854775807∧ROW.size=G*4∧e= .returned (.slice (some ⟨w.heap.size,0,none⟩) 0 G)∧w'=w.drew.alloc (.cells ROW 39):=by
 have mixed:=follows;have hsz:(Tryz.prog.info? 39).map (·.size)=some 4:=by kernel_rfl
 have hbz:(Tryz.prog.info? 39).map (fun i=>(Nat.ble i.bytes 1000,i.zero.isSome,(i.zero.map (·.cells.size))))=some (true,true,some 4):=by kernel_rfl
 obtain⟨i0,hi0⟩:∃i,Tryz.prog.info? 39=some i:=by
  cases hq:Tryz.prog.info? 39 with
  | none=>simp[hq]at hsz
  | some i=>exact⟨i,rfl⟩
 have hzs:i0.size=4:=by simpa[hi0] using hsz
 simp only[hi0,Option.map_some,Option.some.injEq,Prod.mk.injEq]at hbz;obtain⟨hb0,hz0,hz7⟩:=hbz;obtain⟨z,hz0⟩:=Option.isSome_iff_exists.1 hz0;have hz7:z.cells.size=4:=by simpa[hz0] using hz7
 have hbytes:i0.bytes≤1000:=Nat.le_of_ble_eq_true hb0;have hbig:n*i0.bytes≤1000000000:=Nat.le_trans (Nat.mul_le_mul hn hbytes) (by decide);have hw1:IntKind.i64.wrap ((0:Int)-0)=0:=rfl;have hw2:IntKind.i64.wrap ((n:Int)-0)=(n:Int):=by rw[IntKind.wrap_i64];omega
 have hrz : ∀ty, (Builtin.append_ #[30, 3] ty #[.slice none 0 0, .int .i64 (n : Int)]).run Tryz.prog w =
   .ok (.slice (some ⟨w.heap.size,0,none⟩) n (grownCap w n 0 39)) (w.drew.alloc (.cells (#[]++Builtin.zeroCells z.cells n++Builtin.zeroCells z.cells (grownCap w n 0 39-n)) 39)):=fun ty=>by
  have h:=Lib.run_append_grow_zeros w 30 3 ty 39 i0 z .i64 .i64 Tryz.underlying30 Tryz.underlying3 hi0 hz0 none 0 0 [] (run_firstCells_none w.drew i0.size 0 0 0) n h0 (by omega) (by omega) (by omega) (by omega)
   (by rw[Nat.zero_add];exact growslice_fits (by omega) (by omega))
  rw[Nat.zero_add]at h
  exact h
 obtain⟨G,hG⟩:∃G,G=grownCap w n 0 39:=⟨_,rfl⟩;obtain⟨ROW,hROW⟩:∃ROW:Array Value,ROW= #[]++Builtin.zeroCells z.cells n++Builtin.zeroCells z.cells (G-n):=⟨_,rfl⟩;rw[← hG]at hrz;rw[← hROW]at hrz;have hGn:n≤G:=by rw[hG];exact grownCap_ge w _ _ _
 have hG63:G≤9223372036854775807:=by have:=grownCap_le_maxLen w n 0 39 (by unfold maxLen;omega);rw[← hG]at this;unfold maxLen at this;omega
 have hRs:ROW.size=G*4:=by rw[hROW];simp[Builtin.zeroCells,hz7];omega
 have h1:¬ ((n:Int)<0):=by omega
 have h4:(n:Int) > 0:=by omega
 clear hG hROW hbig;go_enter Tryz.func242,Tryz.ntmps242;go_wp2_with (at_builtin;refine Lib.wpList_append_run _ rfl _ _ _ _ rfl _ _ rfl rfl _ _ (hrz _) ?_);all_goals (go_ret;first|exact⟨G,ROW,hGn,hG63,hRs,rfl,rfl⟩|exact⟨G,hGn,hG63,ROW,hRs,rfl,rfl⟩)
theorem Zq3 (h0:0<n) (hn:n≤1000000):CO 242 [.nils,.int .i64 (n:Int)] hNil (.own 0 4 0 0) ⟨[.cells 4 []],0,[],0⟩:=by intro g w vals hi hg hv;obtain⟨v0,v1,rfl,a0,a1⟩:=Xt hv;obtain rfl:=a0.nils_inv;obtain rfl:=a1.int_inv;have hf:FnOk Tryz.prog 242 fe242.fn fe242.c:=fe242.ok;rw[Zv hf];simp only[UponCall];refine Calls.mono (Zss n h0 hn w) fun e w' ⟨G,ROW,g1,g2,g3,he,hw'⟩=>?_;subst he;subst hw';have hi1:Inv g hNil w.drew:=hi.same rfl;obtain⟨i1,k1⟩:=Vv hi1 (.cells ROW 39) (.cells 4 []) rfl (fun es el h=>by cases h;exact⟨ROW,39,rfl,fun i hi=>absurd hi (by simp),by simp,fun i hi=>absurd hi (by simp)⟩) (fun es h=>by cases h) (G*4) (fun c T m h=>by cases h;omega);have k0:Keep g hNil w g hNil w.drew:= .same rfl (.rfls);refine⟨_,rfl,_,.own 0 4 0 0 w.heap.size G _ (by simp[Gh.link,hNil]) (Nat.zero_le _) (fun _=>by simp) rfl ⟨by simp[Gh.link,hNil],g2⟩,i1,KeepN.then k0 hi k1⟩
theorem ZoG (w:World):Calls Tryz.prog 242 #[.slice none 0 0,.int .i64 0] w fun e w'=>e= .returned (.slice none 0 0)∧w'=w:=by have mixed:=follows;have hw1:IntKind.i64.wrap ((0:Int)-0)=0:=rfl;go_enter Tryz.func242,Tryz.ntmps242;go_wp2;all_goals (go_ret;exact⟨rfl,rfl⟩)
theorem Zrn:CO 242 [.nils,.int .i64 0] hNil .nils hNil:=by intro g w vals hi hg hv;obtain⟨v0,v1,rfl,a0,a1⟩:=Xt hv;obtain rfl:=a0.nils_inv;obtain rfl:=a1.int_inv;have hf:FnOk Tryz.prog 242 fe242.fn fe242.c:=fe242.ok;rw[Zv hf];simp only[UponCall];refine Calls.mono (ZoG w) fun e w' ⟨he,hw'⟩=>?_;subst he;subst hw';exact⟨_,rfl,g,.pure _ _ .nils,hi,KeepN.refl _ _ _ _⟩
theorem WC:∀l:List Tm,Yo (Za l)=some (Za l)
 | []=>rfl
 | .mk k nm s b kz::r=>by simp only[Za,Tm.cells,Yo,XA,WC r]
theorem ZkT (H:Heap) (l:List Tm) (n k:Nat) (hk:k=l.length) (hn:l≠ []) (hH:nth H.bx n=some (.cells 4 (Za l))):frz3 0 H (.own n 4 0 k)=some (slV true 4 (Za l)):=by
 have hl:(Za l).length=k:=by rw[Zb,hk]
 have h1:((Za l).drop 0).take k=Za l:=by rw[List.drop_zero, ← hl,List.take_length]
 have e:slV true 4 (Za l)= .sl .none 4 (Za l):=by
  cases l with
  | nil=>exact absurd rfl hn
  | cons a r =>
    obtain⟨k,nm,s,b,kz⟩:=a
    exact Zp _ _ _ _
 rw[e];show frzC 0 H (.own n 4 0 k)=_;simp only[frzC,Nat.not_lt_zero,if_false,hH,true_and,Nat.zero_add,hl,Nat.le_refl,if_true,h1,WC]
theorem Zmh {M:List Tm} (hn:L.length=n) (hb:bx[k]? = some (.cells 4 (Za L))) (hM:M≠ []) (hl:n+M.length≤1000000) (b:Bool):ZP E0 30 30 (.own k 4 0 n) (slV b 4 (Za M)) ⟨bx,0,[],0⟩=some (.own bx.length 4 0 (n+M.length),⟨bx.set k .dead++ [.cells 4 (Za (L++M))],0,[],0⟩):=by
 have hs:YK ⟨bx,0,[],0⟩ (.own k 4 0 n)=some (Za L):=by have hnth:nth bx k=some (.cells 4 (Za L)):=(Zm _ _).trans hb;simp only[YK,hnth];rw[if_pos ⟨trivial,by rw[Zb];omega⟩,List.drop_zero, ← hn, ← Zb L,List.take_length,WC]
 have he:=ZW (s:= .own k 4 0 n) YB (ElV.slV b 4 (Za M)) (Zr _) rfl rfl ⟨bx,0,[],0⟩;have hM2:=Zb M;cases hE:Za M with
 |nil=>rw[hE]at hM2;exact absurd (List.length_eq_zero_iff.1 hM2.symm) hM
 |cons y yr=>rw[hE]at he hM2;simp only[ZP,he,YD,WH,hs];rw[if_pos ⟨trivial,Nat.zero_le _,by rw[Zb,hn],ZR (by rw[Zb,hM2];omega) (by decide)⟩,Zb,hM2,hn,Zs,hE]
theorem ZlI (b:Bool):ZP E0 30 30 (.own k 4 0 n) (slV b 4 (Za [])) ⟨bx,0,[],0⟩=some (.own k 4 0 n,⟨bx,0,[],0⟩):=by have he:=ZW (s:= .own k 4 0 n) YB (ElV.slV b 4 (Za [])) (Zr _) rfl rfl ⟨bx,0,[],0⟩;simp only[ZP,he];rfl
theorem Ztu (hl:a.length+b.length≤1000000) (ba bb:Bool):∀H,CO 226 [.sl .none 1 [[slV ba 4 (Za a)],[slV bb 4 (Za b)]]] H (slV true 4 (Za (a++b))) H:=by
 refine Jw tOk fe226.ok (ZJ _ _ _ _ _) ?_;have b1:XM E0 .add 3 (.int .i64 0) (.int .i64 ((Za a).length:Int))=some (.int .i64 (a.length:Int)):=by rw[Zb];show some (PV.int .i64 (IntKind.i64.wrap (0+(a.length:Int))))=_;rw[IntWalk.i64_in _ (by omega),Int.zero_add]
 have b2:XM E0 .add 3 (.int .i64 (a.length:Int)) (.int .i64 ((Za b).length:Int))=some (.int .i64 ((a.length+b.length:Nat):Int)):=by rw[Zb];show some (PV.int .i64 (IntKind.i64.wrap ((a.length:Int)+(b.length:Int))))=_;rw[IntWalk.i64_in _ (by omega)];congr 2
 have b3:XM E0 .lss 3 (.int .i64 (a.length:Int)) (.int .i64 0)=some (.bool false):=by show some (PV.bool (decide ((a.length:Int)<0)))=_;rw[decide_eq_false (by omega)]
 have b4:XM E0 .lss 3 (.int .i64 ((a.length+b.length:Nat):Int)) (.int .i64 0)=some (.bool false):=by show some (PV.bool (decide (((a.length+b.length:Nat):Int)<0)))=_;rw[decide_eq_false (by omega)]
 have go1:=Zq3 (n:=a.length+b.length);by_cases h0:a.length+b.length=0
 ·have ea:a= []:=List.length_eq_zero_iff.1 (by omega);have eb:b= []:=List.length_eq_zero_iff.1 (by omega);rw[h0]at b2 b4;have hg:=Zrn;clear go1 h0;subst ea eb;have hap:∀f,ZP E0 30 30 .nils (slV f 4 (Za [])) hNil=some (.nils,hNil):=fun f=>by have he:=ZW (s:= .nils) YB (ElV.slV f 4 (Za [])) (Zr _) rfl rfl hNil;simp only[ZP,he];rfl
  have hap1:=hap ba;have hap2:=hap bb;rw[show slV true 4 (Za ([]++ []))= .nils from Zi 4];repeat' first|refine Jo ?_|fail
  refine Wp.loop ?_;repeat' first|refine Kd ?_|refine Ke ?_|fail
  refine LoopQ.go ?_;refine Wp.loop ?_;repeat' first|refine Kd ?_|refine Ke ?_|fail
  refine LoopQ.go ?_;refine Wp.loop ?_;repeat' first|refine Ki ?_|fail
  refine LoopQ.exit ?_;repeat' first|refine Jc hg ?_|refine Jo ?_|fail
  refine Wp.loop ?_;repeat' first|refine JA ?_|refine Ke ?_|fail
  refine LoopQ.go ?_;refine Wp.loop ?_;repeat' first|refine JA ?_|refine Ke ?_|fail
  refine LoopQ.go ?_;refine Wp.loop ?_;repeat' first|refine Ki ?_|fail
  refine LoopQ.exit ?_;repeat' first|refine Jo ?_|fail
  rfl
 ·have hg:=go1 (by omega) hl;clear go1;obtain⟨A,lA,hapA,hA⟩:∃(A:Nat) (bx:List Box),ZP E0 30 30 (.own 0 4 0 0) (slV ba 4 (Za a)) ⟨[.cells 4 []],0,[],0⟩=some (.own A 4 0 a.length,⟨bx,0,[],0⟩)∧bx[A]? = some (.cells 4 (Za a)):=by by_cases e:a= [];{subst e;exact⟨0,_,ZlI ba,rfl⟩};{have:=Zmh (bx:=[.cells 4 []]) (k:=0) (L:=[]) (M:=a) (n:=0) rfl rfl e (by omega) ba;rw[Nat.zero_add]at this;exact⟨_,_,this,rfl⟩}
  obtain⟨B,lB,hapB,hB⟩:∃(B:Nat) (bx:List Box),ZP E0 30 30 (.own A 4 0 a.length) (slV bb 4 (Za b)) ⟨lA,0,[],0⟩=some (.own B 4 0 (a.length+b.length),⟨bx,0,[],0⟩)∧bx[B]? = some (.cells 4 (Za (a++b))):=by by_cases e:b= [];{subst e;refine⟨A,lA,?_,by rw[List.append_nil];exact hA⟩;rw[ZlI];rfl};{exact⟨_,_,Zmh rfl hA e hl bb,by rw[List.getElem?_append_right (by simp)];simp⟩}
  have hfr:∀m,frz3 m ⟨lB,0,[],0⟩ (.own B 4 0 (a.length+b.length))=frz3 m ⟨lB,0,[],0⟩ (.own B 4 0 (a.length+b.length)):=fun _=>rfl;have hfr:=ZkT ⟨lB,0,[],0⟩ (a++b) B (a.length+b.length) (by simp) (fun e=>h0 (by rw[← List.length_append,e];rfl)) ((Zm _ _).trans hB);repeat' first|refine Jo ?_|fail
  refine Wp.loop ?_;repeat' first|refine Kd ?_|refine Ke ?_|fail
  refine LoopQ.go ?_;refine Wp.loop ?_;repeat' first|refine Kd ?_|refine Ke ?_|fail
  refine LoopQ.go ?_;refine Wp.loop ?_;repeat' first|refine Ki ?_|fail
  refine LoopQ.exit ?_;repeat' first|refine Jc hg ?_|refine Jo ?_|fail
  refine Wp.loop ?_;repeat' first|refine JA ?_|refine Ke ?_|fail
  refine LoopQ.go ?_;refine Wp.loop ?_;repeat' first|refine JA ?_|refine Ke ?_|fail
  refine LoopQ.go ?_;refine Wp.loop ?_;repeat' first|refine Ki ?_|fail
  refine LoopQ.exit ?_;repeat' first|refine Jo ?_|fail
  exact hfr
