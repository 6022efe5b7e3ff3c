/-
  As VmRd, with the bulk of what is read: the values and letters that a reading ho
-/
import Derived.Test.YtgnklbkmfeafaaaGreatDoorFg
import Derived.Laws.IdiomCopy
import Derived.LaidByTextLater
namespace Go.Vm
variable {L bx:List Box} {ty u:TypeId} {b by_ d es i k n0 nt nt' ro:Nat} {X Y p x:PV} {el:List (List PV)} {lv lv':List Nat} {v:Value} {g':Gh} {w':World} {H' H1:Heap} {f:FuncId} {al args args' caps:List PV} {all r:List Oper} {pos:String} {aft:Array Edge} {grd:Option (Nat×Bool)} {ops:Array Oper} {ats:Array TypeId} {c:Code}
structure Na.Ok (n:Na):Prop where
 nm:n.name.length≤1048576
 rl:n.roles.length≤1048576
 fl:n.fresh.length≤1048576
 tl:n.tags.length≤1048576
 sl:n.steps.length≤1048576
 gl:n.goals.length≤1048576
 rs:∀ s,s∈n.roles→s.length≤1048576
 fs:∀ f,f∈n.fresh→f.role.length≤1048576∧f.name.length≤1048576
 ts:∀ s,s∈n.tags→s.length≤1048576
 ss:∀ s,s∈n.steps→s.frm.length≤1048576∧s.to.length≤1048576∧s.msg.Ok
 gs:∀ g,g∈n.goals→g.role.length≤1048576∧g.wth.length≤1048576∧∀ t,t∈g.data→t.Ok
 ds:(n.goals.flatMap (·.data)).length≤1048576
structure Na.Sm (n:Na):Prop where
 nm:n.name.length≤1048600
 rl:n.roles.length≤40
 fl:n.fresh.length≤40
 tl:n.tags.length≤40
 sl:n.steps.length≤40
 gl:n.goals.length≤40
 rs:∀ s,s∈n.roles→s.length≤1048600
 fs:∀ f,f∈n.fresh→f.role.length≤1048600∧f.name.length≤1048600
 ts:∀ s,s∈n.tags→s.length≤1048600
 ss:∀ s,s∈n.steps→s.frm.length≤1048600∧s.to.length≤1048600∧s.msg.Ok∧s.msg.size≤400
 gs:∀ g,g∈n.goals→g.role.length≤1048600∧g.wth.length≤1048600∧g.data.length≤100∧∀ t,t∈g.data→t.Ok∧t.size≤400
def Na.tms (n:Na):List Tm:=n.steps.map (·.msg)++n.goals.flatMap (·.data)
def Na.few (n:Na):Bool:=if 16<n.roles.length∨16<n.fresh.length∨16<n.tags.length∨16<n.steps.length∨16<n.goals.length then false else Zdd n.tms 100 900
def Na.small (n:Na):Bool:=n.few&&(decide (n.steps.length≤8)&&(decide (n.goals.length≤5)&&Zdd n.tms 40 80))
theorem Vj (n : Na) : (n.roles.length < 2 ∧ n.nums = 8) ∨ (¬ n.roles.length < 2 ∧ 4 < n.roles.length ∧ n.nums = 3) ∨ (¬ n.roles.length < 2 ∧ ¬ 4 < n.roles.length ∧ 12 < n.fresh.length ∧ n.nums = 3) ∨
  (¬ n.roles.length<2∧¬ 4<n.roles.length∧¬ 12<n.fresh.length∧8<n.tags.length∧n.nums=3)∨
  (¬ n.roles.length<2∧¬ 4<n.roles.length∧¬ 12<n.fresh.length∧¬ 8<n.tags.length∧n.steps.length=0∧n.nums=8)∨
  (¬ n.roles.length<2∧¬ 4<n.roles.length∧¬ 12<n.fresh.length∧¬ 8<n.tags.length∧n.steps.length≠0∧8<n.steps.length∧n.nums=3)∨
  (¬ n.roles.length<2∧¬ 4<n.roles.length∧¬ 12<n.fresh.length∧¬ 8<n.tags.length∧n.steps.length≠0∧¬ 8<n.steps.length∧8<n.goals.length∧n.nums=3)∨
  (¬ n.roles.length<2∧¬ 4<n.roles.length∧¬ 12<n.fresh.length∧¬ 8<n.tags.length∧n.steps.length≠0∧¬ 8<n.steps.length∧¬ 8<n.goals.length∧n.nums=0):=by
 unfold Na.nums
 by_cases d1:n.roles.length<2
 · rw [if_pos d1];exact .inl ⟨d1,rfl⟩
 rw [if_neg d1]
 by_cases d2:4<n.roles.length
 · rw [if_pos (.inl d2)];exact .inr (.inl ⟨d1,d2,rfl⟩)
 by_cases d3:12<n.fresh.length
 · rw [if_pos (.inr (.inl d3))];exact .inr (.inr (.inl ⟨d1,d2,d3,rfl⟩))
 by_cases d4:8<n.tags.length
 · rw [if_pos (.inr (.inr d4))];exact .inr (.inr (.inr (.inl ⟨d1,d2,d3,d4,rfl⟩)))
 rw [if_neg (by omega)]
 by_cases d5:n.steps.length=0
 · rw [if_pos d5];exact .inr (.inr (.inr (.inr (.inl ⟨d1,d2,d3,d4,d5,rfl⟩))))
 rw [if_neg d5]
 by_cases d6:8<n.steps.length
 · rw [if_pos (.inl d6)];exact .inr (.inr (.inr (.inr (.inr (.inl ⟨d1,d2,d3,d4,d5,d6,rfl⟩)))))
 by_cases d7:8<n.goals.length
 · rw [if_pos (.inr d7)];exact .inr (.inr (.inr (.inr (.inr (.inr (.inl ⟨d1,d2,d3,d4,d5,d6,d7,rfl⟩))))))
 rw [if_neg (by omega)]
 exact .inr (.inr (.inr (.inr (.inr (.inr (.inr ⟨d1,d2,d3,d4,d5,d6,d7,rfl⟩))))))
def nnW (N:List Zg):Nat→Zg→Zg
 |0,w=>w
 |f+1,w=>if ZU N w=true then nnW N f (w++ [95]) else w
def nnF (N:List Zg) (w:Zg):Zg:=nnW N (61-w.length) w
theorem V3 {R:List Zg} {s:Zg}:ZU R s=true↔s∈R:=by
 simp [ZU,List.any_eq_true]
theorem XR (R S:List Zg) (s:Zg):ZU (R++S) s=(ZU R s||ZU S s):=by simp [ZU]
theorem Zeg (N:List Zg) (hN:∀ s,s∈N→s.length≤60):∀ (f:Nat) (w:Zg),(nnW N f w).length≤max w.length 61∧w.length≤(nnW N f w).length
 |0,w=>by simp [nnW];omega
 | f + 1, w => by
   simp only [nnW]
   split
   · rename_i h
     have h1:=hN w (V3.1 h)
     have h2:=Zeg N hN f (w++ [95])
     simp only [List.length_append,List.length_cons,List.length_nil] at h2
     omega
   · omega
def atT (s:Zg):Tm:= .mk 2 s 0 true []
def apT (f:Zg) (l:List Tm):Tm:= .mk 3 f 0 false l
def WF (t:Tm):Nat→Tm
 |0=>t
 |n+1=>apT ZN [t,WF t n]
def Na.none:Na:=⟨[],true,[],true,[],true,[],true,[],true,[]⟩
def Na.chkd (n:Na):Na×Int:=if n.chk.2≠0 then (.none,n.chk.2) else (n,0)
def Na.with (n:Na) (t:Zg):Na:={n with tn:=false,tags:=n.tags++ [t]}
def Na.repl (n:Na) (i:Nat) (t:Tm):Na:={n with steps:=match n.steps[i]? with|some s=>n.steps.set i {s with msg:=t}|Option.none=>n.steps}
def ZcU:Zg:=[112,97,100]
def Na.inE (n:Na) (step:Int):Int:=if n.chk.2≠0 then n.chk.2 else if step<0∨(n.steps.length:Int)≤step then 7 else 0
def Na.pad (n:Na) (step size:Int):Na×Int:=
 if n.inE step≠0 then (.none,n.inE step) else if size<1∨6<size then (.none,7)
 else ((n.with (nnF n.nms ZcU)).repl step.toNat (apT ZN [((n.steps[step.toNat]?).map (·.msg)).getD (atT []),WF (atT (nnF n.nms ZcU)) (size.toNat-1)])).chkd
def Na.lines (n:Na):List Int:=n.steps.map (·.line)++n.goals.map (·.line)
def Z7:PV→Option Nat
 | .sl (.tok k) _ _=>some k
 |_=>none
inductive ApV (b:Bool) (es:Nat):List (List PV)→PV→List Nat→Nat→Prop
 |nil (lv:List Nat) (nt:Nat) (h:b=true):ApV b es [] .nils lv nt
 |full (L:List (List PV)) (lv:List Nat) (nt:Nat) (h:b=false) (hB:noB L=true):ApV b es L (.sl .full es L) lv nt
 |tok (L:List (List PV)) (k:Nat) (lv:List Nat) (nt:Nat) (hL:L≠ []) (hk:k∈lv) (hn:k<nt) (hB:noB L=true):ApV b es L (.sl (.tok k) es L) lv nt
theorem Wh {L M:List (List PV)} (h:noB L=true) (h2:noB M=true):noB (L++M)=true:=by
 simp only [noB,List.all_append,Bool.and_eq_true] at h h2 ⊢
 exact ⟨h,h2⟩
theorem VA:∀ {l:List Nat} {k:Nat},k∈l→∃ l',Xp k l=some l'∧∀ j,j∈l→j≠k→j∈l'
 | x :: r, k, h => by
   simp only [Xp]
   by_cases e:x=k
   · rw [if_pos e]
     refine ⟨r,rfl,fun j hj hn=>?_⟩
     rcases List.mem_cons.1 hj with e2|hj
     · exact absurd (e2.trans e) hn
     · exact hj
   · rw [if_neg e]
     have hr:k∈r:=by
      rcases List.mem_cons.1 h with e2|h
      · exact absurd e2.symm e
      · exact h
     obtain ⟨l',h1,h2⟩:=VA hr
     rw [h1]
     refine ⟨x::l',rfl,fun j hj hn=>?_⟩
     rcases List.mem_cons.1 hj with e2|hj
     · rw [e2];exact List.mem_cons_self
     · exact List.mem_cons_of_mem _ (h2 j hj hn)
theorem ApV.under {b:Bool} {es:Nat} {L:List (List PV)} {out:PV} {lv:List Nat} {nt:Nat} (h:ApV b es L out lv nt) (n:Nat):under n out=true:=by
 cases h<;>rfl
theorem ApV.frz1 {b:Bool} {es:Nat} {L:List (List PV)} {out:PV} {lv:List Nat} {nt:Nat} (h:ApV b es L out lv nt):frz1 out=some (slV b es L):=by
 cases h with
 |nil lv nt h=>subst h;rw [Zq];rfl
 | full L lv nt h =>
   subst h
   cases L with
   | nil=>rw [ZB];rfl
   | cons c r=>rw [Zx];rfl
 | tok L k lv nt hL =>
   cases L with
   | nil=>exact absurd rfl hL
   | cons c r=>rw [Zx];rfl
theorem ApV.frzC {b:Bool} {es:Nat} {L:List (List PV)} {out:PV} {lv:List Nat} {nt:Nat} (h:ApV b es L out lv nt) (m:Nat) (H:Heap):frzC m H out=some (slV b es L):=by
 have h1:=h.frz1
 cases h<;>exact h1
theorem ApV.frz2 {b:Bool} {es:Nat} {L:List (List PV)} {out:PV} {lv:List Nat} {nt:Nat} (h:ApV b es L out lv nt) (m:Nat) (H:Heap):frz2 m H out=some (slV b es L):=by
 have h1:=h.frz1
 cases h<;>exact h1
theorem ApV.frz3 {b:Bool} {es:Nat} {L:List (List PV)} {out:PV} {lv:List Nat} {nt:Nat} (h:ApV b es L out lv nt) (m:Nat) (H:Heap):frz3 m H out=some (slV b es L):=by
 have h1:=h.frz1
 cases h<;>exact h1
theorem ApV.frzG {b:Bool} {es:Nat} {L:List (List PV)} {out:PV} {lv:List Nat} {nt:Nat} (h:ApV b es L out lv nt):frzG out=some (slV b es L):=by
 have h1:=h.frz1
 cases h<;>exact h1
theorem ApV.argV {b:Bool} {es:Nat} {L:List (List PV)} {out:PV} {lv:List Nat} {nt:Nat} (h:ApV b es L out lv nt):argV out=slV b es L:=by
 cases h with
 |nil lv nt h=>subst h;rw [Zq];rfl
 | full L lv nt h => subst h; cases L with
   | nil=>rw [ZB];rfl
   | cons c r=>rw [Zx];rfl
 | tok L k lv nt hL => cases L with
   | nil=>exact absurd rfl hL
   | cons c r=>rw [Zx];rfl
structure ElV (es:Nat) (x:PV) (el:List (List PV)):Prop where
 el:∀ H,WE H x=some el
 size:Wr es x=es
theorem ElV.slV (b:Bool) (es:Nat) (el:List (List PV)):ElV es (slV b es el) el:=by
 cases el with
 | nil => cases b
          · rw [ZB];exact ⟨fun _=>rfl,rfl⟩
          · rw [Zq];exact ⟨fun _=>rfl,rfl⟩
 |cons c r=>rw [Zx];exact ⟨fun _=>rfl,rfl⟩
theorem ElV.sl (tl:Tail) (es:Nat) (el:List (List PV)):ElV es (.sl tl es el) el:=⟨fun _=>rfl,rfl⟩
theorem ElV.nils (es:Nat):ElV es .nils []:=⟨fun _=>rfl,rfl⟩
section
variable {E:Env}
structure ApT (E:Env) (t u:TypeId) (es by_:Nat):Prop where
 h:∃ ti ui e f ei,E.T t=some ti∧E.T u=some ui∧ti.tk= .slice e∧ui.tk= .slice f∧E.T e=some ei∧ei.size=es∧ei.bytes=by_∧0<ei.size∧ei.zero.cells.length=ei.size
theorem Z2 {t : TypeId} (hT : ApT E t u es by_) {s : PV} (hx : ElV es x el) (hok : el.all (fun c => c.all Zp) = true) (hs : Wr es s = es) (ho : Zg0 s = true) (H : Heap) :
  Vu E t u s x H=some (es,by_,el):=by
 obtain ⟨ti,ui,e,f,ei,h1,h2,h3,h4,h5,h6,h7,h8,h9⟩:=hT.h
 simp only [Vu,h1,h2,h3,h4,h5]
 subst h6 h7
 rw [if_pos ⟨h8,h9,hs,hx.size⟩,hx.el H]
 simp only [hok,ho,and_self,if_true]
theorem ApV.app {b : Bool} {L : List (List PV)} {out : PV} (h : ApV b es L out lv nt) {t : TypeId} (hT : ApT E t u es by_) (hx : ElV es x el)
  (hok:el.all (fun c=>c.all Zp)=true) (hf:XH L.length el.length by_=true) (hnb:noB el=true) :
  ∃ out' lv' nt',(∀ bx ro,ZL E t u out x ⟨bx,ro,lv,nt⟩=some (out',⟨bx,ro,lv',nt'⟩))∧ApV b es (L++el) out' lv' nt'∧
   ∀ b2 es2 L2 out2,ApV b2 es2 L2 out2 lv nt→(Z7 out2=none∨Z7 out2≠Z7 out)→ApV b2 es2 L2 out2 lv' nt'∧(Z7 out2=none∨Z7 out2≠Z7 out'):=by
 have hs:Wr es out=es:=by cases h<;>rfl
 have ho:Zg0 out=true:=by cases h<;>rfl
 cases el with
 | nil =>
   refine ⟨out,lv,nt,fun bx ro=>?_,by rw [List.append_nil];exact h,fun b2 es2 L2 out2 h2 hne=>⟨h2,hne⟩⟩
   simp only [ZL,Z2 hT hx hok hs ho]
 | cons y yr =>
   have fresh:∀ (lv':List Nat),(∀ j,j∈lv→some j≠Z7 out→j∈lv')→∀ b2 es2 L2 out2,ApV b2 es2 L2 out2 lv nt→(Z7 out2=none∨Z7 out2≠Z7 out)→ApV b2 es2 L2 out2 (nt::lv') (nt+1)∧(Z7 out2=none∨Z7 out2≠Z7 (.sl (.tok nt) es (L++y::yr))):=fun lv' hl b2 es2 L2 out2 h2 hne=>by
    cases h2 with
    | nil _ _ hb=>exact ⟨.nil _ _ hb,.inl rfl⟩
    | full _ _ _ hb hB=>exact ⟨.full _ _ _ hb hB,.inl rfl⟩
    | tok _ k _ _ hL hk hn hB =>
      have hne2:some k≠Z7 out:=by
       rcases hne with h|h
       · simp [Z7] at h
       · exact h
      refine ⟨.tok _ k _ _ hL (List.mem_cons_of_mem _ (hl k hk hne2)) (by omega) hB,.inr ?_⟩
      simp only [Z7,ne_eq,Option.some.injEq]
      omega
   cases h with
   | nil _ _ hb =>
     refine ⟨.sl (.tok nt) es (y::yr),nt::lv,nt+1,fun bx ro=>?_,.tok _ nt _ _ (by simp) List.mem_cons_self (Nat.lt_succ_self _) hnb,fresh lv fun j hj _=>hj⟩
     simp only [ZL,Z2 hT hx hok hs ho,Xi,List.nil_append]
     exact if_pos (by rw [hf,Ux hnb];rfl)
   | full _ _ _ hb hB =>
     refine ⟨.sl (.tok nt) es (L++y::yr),nt::lv,nt+1,fun bx ro=>?_,.tok _ nt _ _ (by simp) List.mem_cons_self (Nat.lt_succ_self _) (Wh hB hnb),fresh lv fun j hj _=>hj⟩
     simp only [ZL,Z2 hT hx hok hs ho,Xi]
     rw [if_pos (by rw [hf,Ux (Wh hB hnb)];rfl)]
   | tok _ k _ _ hL hk hn hB =>
     obtain ⟨l',h1,h2⟩:=VA hk
     refine ⟨.sl (.tok nt) es (L++y::yr),nt::l',nt+1,fun bx ro=>?_,.tok _ nt _ _ (by simp) List.mem_cons_self (Nat.lt_succ_self _) (Wh hB hnb),fresh l' fun j hj hne=>h2 j hj fun e=>hne (by rw [e];rfl)⟩
     simp only [ZL,Z2 hT hx hok hs ho]
     rw [if_pos (by rw [hf,Ux (Wh hB hnb),hnb,Bool.or_true];rfl),h1]
end
def QS (g:Gh) (w:World):Gh:={S:=fun b o=>w.cell? ⟨b,o,none⟩,σ:=fun _=>none,τ:=fun _=>none,κ:=fun _=>0,mono:=g.mono}
def Zf2:PV→Bool
 | .bool _=>true
 | .int _ _=>true
 | .str _=>true
 | .tup l => l.all fun x => match x with
   | .bool _=>true
   | .int _ _=>true
   | .str _=>true
   | _=>false
 |_=>false
section
variable {E:Env} {P:Program} {g:Gh} {H:Heap} {w:World}
theorem ZgR {S S':X4} (hs:Zf2 p=true) (h:V0 S p v):V0 S' p v:=by
 cases h with
 |bool b=>exact .bool b
 |int k n=>exact .int k n
 |str s b h=>exact .str s b h
 | tup cs vs hl hv =>
   refine .tup cs vs hl fun i hi=>?_
   have hx:(match cs[i] with
    | .bool _=>true
    | .int _ _=>true
    | .str _=>true
    | _=>false)=true:=List.all_eq_true.1 hs _ (List.getElem_mem hi)
   have hvi:=hv i hi
   revert hx hvi
   generalize cs[i]=x
   generalize vs[i]'(by omega)=y
   intro hx hvi
   cases hvi with
   | bool b=>exact .bool b
   | int k n=>exact .int k n
   | str s b h=>exact .str s b h
   | nilp=>cases hx
   | nils=>cases hx
   | nilm=>cases hx
   | nilf=>cases hx
   | undef=>cases hx
   | sl=>cases hx
   | fptr=>cases hx
   | agg=>cases hx
   | tup=>cases hx
   | fn=>cases hx
 |nilp=>cases hs
 |nils=>cases hs
 |nilm=>cases hs
 |nilf=>cases hs
 |undef=>cases hs
 |sl=>cases hs
 |fptr=>cases hs
 |agg=>cases hs
 |fn=>cases hs
theorem Zb9 {g:Gh} (hs:Zf2 p=true) (h:V g p v):V g' p v:=by
 cases h with
 |pure _ _ h=>exact .pure _ _ (ZgR hs h)
 | tup cs vs hl hv =>
   refine .tup cs vs hl fun i hi=>?_
   have hx:(match cs[i] with
    | .bool _=>true
    | .int _ _=>true
    | .str _=>true
    | _=>false)=true:=List.all_eq_true.1 hs _ (List.getElem_mem hi)
   have hvi:=hv i hi
   revert hx hvi
   generalize cs[i]=x
   generalize vs[i]'(by omega)=y
   intro hx hvi
   cases hvi with
   | pure _ _ h =>
     refine .pure _ _ ?_
     cases h with
     | bool b=>exact .bool b
     | int k n=>exact .int k n
     | str s b h=>exact .str s b h
     | nilp=>cases hx
     | nils=>cases hx
     | nilm=>cases hx
     | nilf=>cases hx
     | undef=>cases hx
     | sl=>cases hx
     | fptr=>cases hx
     | agg=>cases hx
     | tup=>cases hx
     | fn=>cases hx
   | _=>cases hx
 |_=>cases hs
theorem ZeL (_hi:Inv g H w):Inv (QS g w) hNil w where
 st _ _ _ h:=h
 bx id es el h:=by simp [hNil] at h
 mp id es h:=by simp [hNil] at h
 sp id T cs h:=by simp [hNil] at h
 inj i j b h:=(Xo h).elim
 sd _ _:=rfl
 td _ _:=rfl
 tk t b lo hi' h:=by simp [hNil] at h
 tinj t t' b lo hi' lo' hi2 h:=by simp [hNil] at h
 nd:=List.nodup_nil
 lt t h:=by simp [hNil] at h
 sz id b h:=by simp [QS] at h
 ro:=Nat.le_refl _
 rm id b c T m h:=(Xo h).elim
theorem U8 (hi : Inv g H w) (hh : ∀ b, b < w.heap.size → w'.heap[b]? = w.heap[b]?) (hsz : w.heap.size ≤ w'.heap.size) (hso : SameOut g w w') :
  Inv (XV g w w') H w'∧Keep g H w (XV g w w') H w':=by
 have hS:∀ b o,b<w.heap.size→(XV g w w').S b o=g.S b o:=fun b o hb=>by simp [XV,hb]
 have hle:g.Le (XV g w w'):=⟨fun b o v h=>by rw [hS b o (hi.S_lt h)];exact h,fun _ _ h=>h,fun _ _ h=>h,fun _ _ _=>rfl,rfl⟩
 refine ⟨⟨?_,?_,?_,?_,hi.inj,hi.sd,hi.td,?_,hi.tinj,hi.nd,hi.lt,?_,hi.ro,fun id b c T m h1 h2 h3=>hi.rm id b c T m h1 h2 (by rw [← hh b (hi.sz _ _ h2)];exact h3)⟩,⟨hle,fun b hb _=>hh b hb,fun b hb _ o=>hS b o hb,hsz,?_,?_,rfl,Nat.le_refl _,fun _ _=>rfl,Nat.le_refl _,fun _ h=> .inl h,fun _ _ _ h=>h,fun _ _ h=>h,hso⟩⟩
 · intro b o v h
   by_cases hb:b<w.heap.size
   · rw [hS b o hb] at h
     rw [ZS (hh b hb)]
     exact hi.st _ _ _ h
   · simpa [XV,hb] using h
 · intro id es el h
   obtain ⟨b,c,T,h1,h2,h3,h4,h5,h6⟩:=hi.bx id es el h
   have hb:=hi.sz _ _ h1
   exact ⟨b,c,T,h1,by rw [hh b hb];exact h2,h3,h4,fun i hi' j hj=>let ⟨v,e,x⟩:=h5 i hi' j hj;⟨v,e,x.mono hle⟩,fun o=>by rw [hS b o hb];exact h6 o⟩
 · intro id es h
   obtain ⟨b,c,T,h1,h2,h3,h4,h5⟩:=hi.mp id es h
   have hb:=hi.sz _ _ h1
   exact ⟨b,c,T,h1,by rw [hh b hb];exact h2,h3,fun i hi'=>let ⟨e,a,x,y⟩:=h4 i hi';⟨e,a,x.mono hle,y.mono hle⟩,fun o=>by rw [hS b o hb];exact h5 o⟩
 · intro id T cs h
   obtain ⟨b,c,h1,h2,h3,h4,h5⟩:=hi.sp id T cs h
   have hb:=hi.sz _ _ h1
   exact ⟨b,c,h1,by rw [hh b hb];exact h2,h3,fun j hj=>let ⟨v,e,x⟩:=h4 j hj;⟨v,e,x.mono hle⟩,fun o=>by rw [hS b o hb];exact h5 o⟩
 · intro t b lo hi' h1 h2
   obtain ⟨⟨c,T,h3,h4⟩,h5,h6⟩:=hi.tk t b lo hi' h1 h2
   have hb:b<w.heap.size:=by
    rcases Nat.lt_or_ge b w.heap.size with h|h
    · exact h
    · simp [Array.getElem?_eq_none h] at h3
   exact ⟨⟨c,T,by rw [hh b hb];exact h3,h4⟩,fun o ho=>by rw [hS b o hb];exact h5 o ho,h6⟩
 · intro id b h
   exact Nat.lt_of_lt_of_le (hi.sz _ _ h) hsz
 · intro id b h h'
   rw [show (XV g w w').σ id=g.σ id from rfl,h] at h';cases h'
 · intro t b lo hi' h h'
   rw [show (XV g w w').τ t=g.τ t from rfl,h] at h';cases h'
theorem ZaU (hi : Inv g H w) (k : Keep (QS g w) hNil w g' H' w') :
  Inv (XV g w w') H w'∧Keep g H w (XV g w w') H w':=U8 hi (fun b hb=>k.heap b hb (We _ b)) k.size k.so
theorem YD {r:PV} (h:CallOk E P f args' hNil r hNil) (ha:Xn 0 H args=some args') (hr:Zf2 r=true):CallOk E P f args H r H:=by
 intro g w vals hi hg hv
 obtain ⟨l1,l2⟩:=Qg ha
 have hSt:∀ b o v,g.S b o=some v→(QS g w).S b o=some v:=fun b o v h=>hi.st b o v h
 have hv':VL (QS g w) args' vals.toList:=⟨by rw [l1];exact hv.1,fun i h1 h2=>V.pure (g:=QS g w) _ _ (ZaR hi hSt (fun id b o v _ _ hc=>hc) (hv.2 i (by omega) h2) (l2 i (by omega) h1))⟩
 have hg':GOk E (QS g w):=⟨fun k cs e=>(hg.1 k cs e).mono hSt,hg.2.1,fun k hk=>let ⟨t,p,e⟩:=hg.2.2 k hk;⟨t,p,hSt _ _ _ e⟩⟩
 refine UponCall.mono (fun v w' ⟨g',hp,hi',k⟩=>?_) (h (QS g w) w vals (ZeL hi) hg' hv')
 obtain ⟨i1,k1⟩:=ZaU hi k
 exact ⟨XV g w w',Zb9 hr hp,i1,k1⟩
abbrev HM (es:List (PV×PV)):Heap:=⟨[.map es],1,[],0⟩
def Vz (g:Gh) (w:World) (b:Nat):Gh:={S:=fun b o=>w.cell? ⟨b,o,none⟩,σ:=fun i=>if i=0 then some b else none,τ:=fun _=>none,κ:=fun _=>0,mono:=g.mono}
theorem Za0 {es:List (PV×PV)} (h:(HM es).liveAt i):i=0:=by
 obtain ⟨b,hb,_⟩:=h
 have:=ZJ hb
 simpa using this
theorem Wa {a a' : PV} {rest rest' : List PV} {r : PV} {es : List (PV × PV)} {id : Nat} (h : CallOk E P f (.agg [a', .map 0] :: rest') (HM es) r (HM es)) (hb : H.bx[id]? = some (.map es))
  (hes:es.all (fun x=>Zf2 x.1&&Zf2 x.2)=true) (ha:frz1 a=some a') (hrest:Zt rest=some rest') (hr:Zf2 r=true):CallOk E P f (.agg [a,.map id]::rest) H r H:=by
 intro g w vals hi hg hv
 obtain ⟨b,ents,clk,m1,m2,m3,m4,m5⟩:=hi.mp id es hb
 have hSt:∀ b o v,g.S b o=some v→(Vz g w b).S b o=some v:=fun b o v h=>hi.st b o v h
 have hcell:∀ o,w.cell? ⟨b,o,none⟩=none:=fun o=>by simp [World.cell?,m2]
 have hG:Inv (Vz g w b) (HM es) w:={
  st:=fun _ _ _ h=>h
  bx:=fun id es el h=>by
   have h0:=ZJ h
   have:id=0:=by simpa using h0
   subst this
   simp at h
  mp:=fun id es' h=>by
   have h0:=ZJ h
   have:id=0:=by simpa using h0
   subst this
   simp only [List.getElem?_cons_zero,Option.some.injEq,Box.map.injEq] at h
   subst h
   refine ⟨b,ents,clk,rfl,m2,m3,fun i hi'=>?_,hcell⟩
   obtain ⟨e,e1,e2,e3⟩:=m4 i hi'
   have hs:=List.all_eq_true.1 hes _ (List.getElem_mem hi')
   simp only [Bool.and_eq_true] at hs
   exact ⟨e,e1,Zb9 hs.1 e2,Zb9 hs.2 e3⟩
  sp:=fun id T cs h=>by
   have h0:=ZJ h
   have:id=0:=by simpa using h0
   subst this
   simp at h
  inj:=fun i j b h1 h2 _ _=>by rw [Za0 h1,Za0 h2]
  sd:=fun id h=>by
   have:id≠0:=by simp at h;omega
   simp [Vz,this]
  td:=fun _ _=>rfl
  tk:=fun t b lo hi' h=>by simp at h
  tinj:=fun t t' b lo hi' lo' hi2 h=>by simp at h
  nd:=List.nodup_nil
  lt:=fun t h=>by simp at h
  sz:=fun i b' h=>by
   simp only [Vz] at h
   split at h
   · cases h;exact hi.sz _ _ m1
   · cases h
  ro:=Nat.le_refl _
  rm:=fun _ _ _ _ _ _ _ _=>Nat.zero_le _}
 obtain ⟨l1,l2⟩:=Wg hrest
 have hlen:=hv.1
 simp only [List.length_cons] at hlen
 have hv':VL (Vz g w b) (.agg [a',.map 0]::rest') vals.toList:=by
  refine ⟨by simp only [List.length_cons,l1];exact hv.1,fun i h1 h2=>?_⟩
  cases i with
  | zero =>
    have q:=hv.2 0 (by simp) h2
    obtain ⟨vs,hl,e,hq⟩:=q.agg_inv
    rw [e]
    refine .agg _ vs (by simpa using hl) fun j hj=>?_
    have hj2:j<2:=by simpa using hj
    match j,hj2 with
    | 0, _ =>
      have q0:=hq 0 (by simp)
      exact .pure _ _ ((WG q0 ha).mono hSt)
    | 1, _ =>
      have q1:=hq 1 (by simp)
      obtain ⟨b',e1,e2⟩:=V.map_inv (id:=id) q1
      rw [m1] at e1
      cases e1
      rw [e2]
      exact .map 0 b rfl
  | succ i =>
    have h1':i<rest'.length:=by simpa using h1
    have q:=hv.2 (i+1) (by simp;omega) h2
    exact .pure _ _ ((V7 (p:=rest[i]'(by omega)) q (l2 i (by omega) h1')).mono hSt)
 have hg':GOk E (Vz g w b):=⟨fun k cs e=>(hg.1 k cs e).mono hSt,hg.2.1,fun k hk=>let ⟨t,p,e⟩:=hg.2.2 k hk;⟨t,p,hSt _ _ _ e⟩⟩
 refine UponCall.mono (fun v w' ⟨g',hp,hi',k⟩=>?_) (h (Vz g w b) w vals hG hg' hv')
 have hsh:∀ b',Shut (Vz g w b) (HM es) b':=fun b'=>⟨fun id h1 h2 _=>by have:=Za0 h2;subst this;exact absurd h1 (by simp),fun t lo hi h=>by simp at h⟩
 obtain ⟨i1,k1⟩:=U8 (w':=w') hi (fun b' hb'=>k.heap b' hb' (hsh b')) k.size k.so
 exact ⟨XV g w w',Zb9 hr hp,i1,k1⟩
end
section
variable {E:Env} {P:Program} {own:Tmp→Bool} {n:Nat} {K:TM→Heap→Prop} {tm:TM} {H:Heap}
theorem qLk {t : TypeId} {x i : Operand} {ok : Bool} {p' : PV} (hw : Zc all tm ⟨some d, .lookup t x i ok, ty, pos, aft, grd⟩ = some true) (hn : Nat.blt d n = true) (hx : Zd E tm x = X) (hy : Zd E tm i = Y) (h : WI E t X Y ok H = some p) (hv : IsV p p')
  (hr:RegQ E P own n all r K (ZE tm (some d) p') H):RegQ E P own n all (⟨some d,.lookup t x i ok,ty,pos,aft,grd⟩::r) K tm H:= .run hw rfl hn (p:=p) (by simp only [aOp,hx,hy,h,Option.map_some]) hv hr
theorem qMu {t : TypeId} {m k v : Operand} {Z : PV} (hw : Zc all tm ⟨none, .mapUpdate t m k v, ty, pos, aft, grd⟩ = some true) (hx : Zd E tm m = X) (hy : Zd E tm k = Y) (hz : Zd E tm v = Z) (h : Yc E t X Y Z H = some H1)
  (hr:RegQ E P own n all r K tm H1):RegQ E P own n all (⟨none,.mapUpdate t m k v,ty,pos,aft,grd⟩::r) K tm H:=
 .op (p:= .undef) hw rfl (by simp only [aOp,hx,hy,hz,h,Option.map_some]) hr
end
section
variable {E:Env} {t kt e:TypeId} {ti ei:TI} {id:Nat} {H:Heap}
end
def mpN (l:List (List UInt8×Int)):List (PV×PV):=l.map fun x=>(.str x.1,.int .i64 x.2)
def kyB (s:List UInt8) (l:List (List UInt8×Int)):Bool:=l.any fun x=>decide (x.1=s)
theorem Zdw (k : List UInt8) : ∀ (l : List (List UInt8 × Int)) (i : Nat),
  (∃ j v,W7 (.str k) (mpN l) i=some (some (j,.int .i64 v))∧kyB k l=true∧i≤j∧∀ n,∃ l',(mpN l).set (j-i) (.str k,.int .i64 n)=mpN l'∧∀ s,kyB s l'=kyB s l)∨
  (W7 (.str k) (mpN l) i=some none∧kyB k l=false)
 | [],i=> .inr ⟨rfl,rfl⟩
 | (x, b) :: r, i => by
   by_cases h:k=x
   · subst h
     refine .inl ⟨i,b,by simp [mpN,W7,ZcL],by simp [kyB],Nat.le_refl _,fun n=>⟨(k,n)::r,by simp [mpN],fun s=>by simp [kyB]⟩⟩
   · have e : (k == x) = false := by simpa using h
     have hx:decide (x=k)=false:=decide_eq_false fun e=>h e.symm
     rcases Zdw k r (i+1) with ⟨j,v,h1,h2,h3,h4⟩|⟨h1,h2⟩
     · refine .inl ⟨j, v, ?_, ?_, by omega, fun n => ?_⟩
       · simp only [mpN, List.map_cons, W7, ZcL, e]
         exact h1
       · simp only [kyB,List.any_cons,hx,Bool.false_or];exact h2
       · obtain ⟨l', a1, a2⟩ := h4 n
         refine ⟨(x,b)::l',?_,fun s=>?_⟩
         · rw [show j - i = (j - (i + 1)) + 1 by omega]
           simp only [mpN,List.map_cons,List.set_cons_succ] at a1 ⊢
           rw [a1]
         · have := a2 s
           simp only [kyB,List.any_cons] at this ⊢
           rw [this]
     · refine .inr ⟨?_, ?_⟩
       · simp only [mpN, List.map_cons, W7, ZcL, e]
         exact h1
       · simp only [kyB,List.any_cons,hx,Bool.false_or];exact h2
section
variable {E:Env} {t kt e:TypeId} {ti ei:TI} {id:Nat} {H:Heap} {l:List (List UInt8×Int)}
theorem Zj3 {n : List UInt8} (ht : E.T t = some ti) (hk : ti.tk = .map kt e) (hko : ZcI E kt (.str n) = true) (he : E.T e = some ei) (hz : ei.zero = .int .i64 0) :
  ∃ v:Int,∀ H:Heap,nth H.bx id=some (.map (mpN l))→WI E t (.map id) (.str n) true H=some (.tup [.int .i64 v,.bool (kyB n l)]):=by
 rcases Zdw n l 0 with ⟨j,v,h1,h2, -⟩|⟨h1,h2⟩
 · refine ⟨v, fun H hb => ?_⟩
   simp only [WI,ht,hk,hko,if_true,hb,h1,h2]
 · refine ⟨0, fun H hb => ?_⟩
   simp only [WI,ht,hk,hko,if_true,hb,h1,he,hz,h2]
theorem ZjK {n : List UInt8} (v : Int) (ht : E.T t = some ti) (hk : ti.tk = .map kt e) (hko : ZcI E kt (.str n) = true) :
  ∃ l',(∀ s,kyB s l'=(kyB s l||decide (n=s)))∧∀ H:Heap,nth H.bx id=some (.map (mpN l))→H.ro≤id→Yc E t (.map id) (.str n) (.int .i64 v) H=some {H with bx:=H.bx.set id (.map (mpN l'))}:=by
 rcases Zdw n l 0 with ⟨j,w,h1,h2, -,h4⟩|⟨h1,h2⟩
 · obtain ⟨l', a1, a2⟩ := h4 v
   refine ⟨l',fun s=>?_,fun H hb hr=>?_⟩
   · rw [a2]
     by_cases e:n=s
     · subst e;rw [h2];rfl
     · rw [decide_eq_false e,Bool.or_false]
   · simp only [Yc, ht, hk, hko, if_true, hb, h1, Heap.put, if_neg (show ¬ id < H.ro by omega)]
     rw [Nat.sub_zero] at a1
     rw [a1]
 · refine ⟨l ++ [(n, v)], fun s => by simp [kyB], fun H hb hr => ?_⟩
   simp only [Yc,ht,hk,hko,if_true,hb,h1,Heap.put,if_neg (show ¬ id<H.ro by omega)]
   simp [mpN]
end
theorem Xw (n:Nat) (l:List (List UInt8×Int)):ZO n (.map (mpN l))=true:=by
 simp only [ZO,mpN,List.all_map,List.all_eq_true]
 intro x _
 rfl
section
variable {E:Env} {P:Program}
end
section
variable {E:Env} {P:Program}
def bxK (bx:List Box) (L:List Box) (k:Nat):List Box:=match L with
 | []=>bx
 |_::_=>bx.set k .dead
theorem Xu (bx L:List Box) (k:Nat):(bxK bx L k).length=bx.length:=by cases L<;>simp [bxK]
theorem ZdG (h:k≠i):(bxK bx L k)[i]? = bx[i]? :=by
 cases L with
 |nil=>rfl
 |cons a r=>exact List.getElem?_set_ne h
def Gh.slot (g:Gh) (L:List Box) (k:Nat):Gh where
 S:=g.S
 σ:=fun i=>match L with
  | []=>none
  | _::_=>if i=0 then g.σ k else none
 τ:=fun _=>none
 κ:=fun _=>g.κ k
 mono:=g.mono
def Gh.unslot (g' g:Gh) (n j:Nat):Gh where
 S:=g'.S
 σ:=fun i=>if i=n then g'.σ j else g.σ i
 τ:=g.τ
 κ:=fun i=>if i=n then g'.κ j else g.κ i
 mono:=g.mono
theorem ZdC {g g2:Gh} (hf:Y0 el=some el) (hS:g2.S=g.S) (hi:i<el.length) {j:Nat} (hj:j<(el[i]).length) (h:V g ((el[i])[j]) v):V g2 ((el[i])[j]) v:=by
 obtain ⟨-,h2⟩:=VX hf
 obtain ⟨-,h4⟩:=Ur (h2 i hi hi)
 have:=WG h (h4 j hj hj)
 exact .pure _ _ (hS ▸ this)
def Zhi (L:List Box) (H:Heap) (k:Nat):Prop:=L= []∨∃ es el,L= [.cells es el]∧H.bx[k]? = some (.cells es el)∧Y0 el=some el∧H.ro≤k
theorem Uo (h:(⟨L,0,[],0⟩:Heap).liveAt i) {H:Heap} (hL:Zhi L H k):i=0∧∃ es el,L= [.cells es el]∧H.bx[k]? = some (.cells es el)∧H.ro≤k:=by
 obtain ⟨b,hb, -⟩:=h
 rcases hL with rfl|⟨es,el,rfl,h1, -,h2⟩
 · simp at hb
 · have := ZJ hb
   exact ⟨by simpa using this,es,el,rfl,h1,h2⟩
theorem QY {g:Gh} (h:(g.slot L k).σ i=some b):i=0∧g.σ k=some b∧L≠ []:=by
 cases L with
 |nil=>cases h
 | cons a r =>
   simp only [Gh.slot] at h
   split at h
   · rename_i e
     exact ⟨e,h,by simp⟩
   · cases h
theorem CallOk.slot {f : FuncId} {args args0 : List PV} {r r' : PV} {H H1 : Heap} {L : List Box} {k j : Nat} {B : Box} (h : CallOk E P f args0 ⟨L, 0, [], 0⟩ r H1) (hL : Zhi L H k)
  (ha:∀ (g g0:Gh) (l:List Value),g0.S=g.S→(L≠ []→g0.σ 0=g.σ k∧g0.κ 0=g.κ k)→VL g args l→VL g0 args0 l)
  (hB:B= .dead∨∃ es el D,B= .cells es el∧H1.bx[j]? = some (.cells es (el++D))∧Y0 el=some el)
  (hr:∀ (g1 g2:Gh) (v:Value),g2.S=g1.S→(g2.σ H.bx.length=g1.σ j∧g2.κ H.bx.length=g1.κ j)→V g1 r v→V g2 r' v) :
  CallOk E P f args H r' {H with bx:=bxK H.bx L k++ [B]}:=by
 intro g w vals hi hg hv
 have s0:L≠ []→(g.slot L k).σ 0=g.σ k:=fun hne=>by
  cases L with
  | nil=>exact absurd rfl hne
  | cons a r=>rfl
 have hi0:Inv (g.slot L k) ⟨L,0,[],0⟩ w:={
  st:=hi.st
  bx:=fun id es el e=>by
   rcases hL with rfl|⟨es',el',rfl,h1,h2,h3⟩
   · simp at e
   · have hid : id = 0 := by have := ZJ e; simpa using this
     subst hid
     simp only [List.getElem?_cons_zero,Option.some.injEq,Box.cells.injEq] at e
     obtain ⟨rfl,rfl⟩:=e
     obtain ⟨b,c,T,a1,a2,a3,a4,a5,a6⟩:=hi.bx _ _ _ h1
     exact ⟨b,c,T,a1,a2,a3,a4,fun i hi0 j hj=>let ⟨v,x,y⟩:=a5 i hi0 j hj;⟨v,x,ZdC (g:=g) (g2:=g.slot _ k) h2 rfl hi0 hj y⟩,a6⟩
  mp:=fun id es e=>by
   rcases hL with rfl|⟨es',el',rfl,h1,h2,h3⟩
   · simp at e
   · have hid : id = 0 := by have := ZJ e; simpa using this
     subst hid
     simp at e
  sp:=fun id T cs e=>by
   rcases hL with rfl|⟨es',el',rfl,h1,h2,h3⟩
   · simp at e
   · have hid : id = 0 := by have := ZJ e; simpa using this
     subst hid
     simp at e
  inj:=fun i j b e1 e2 _ _=>by rw [(Uo e1 hL).1,(Uo e2 hL).1]
  sd:=fun id e=>by
   rcases hL with rfl|⟨es',el',rfl,h1,h2,h3⟩
   · rfl
   · have : id ≠ 0 := by simp at e; omega
     simp [Gh.slot,this]
  td:=fun _ _=>rfl
  tk:=fun t b lo hi' e=>by simp at e
  tinj:=fun t t' b lo hi' lo' hi2 e=>by simp at e
  nd:=List.nodup_nil
  lt:=fun t e=>by simp at e
  sz:=fun id b e=>hi.sz k b (QY e).2.1
  ro:=Nat.zero_le _
  rm:=fun id b c T m e1 e2 e3=>by
   obtain ⟨-,es,el, -,hk, -⟩:=Uo e1 hL
   exact hi.rm k b c T m ⟨_,hk,trivial⟩ (QY e2).2.1 e3}
 refine UponCall.mono (fun v w' ⟨g',hp,hi',K⟩=>?_) (h (g.slot L k) w vals hi0 hg (ha g _ _ rfl (fun hne=>⟨s0 hne,rfl⟩) hv))
 obtain ⟨N,hN⟩:∃ N,N=H.bx.length:=⟨_,rfl⟩
 rw [← hN] at hr
 have sh:∀ b,(L≠ []→g.σ k≠some b)→Shut (g.slot L k) ⟨L,0,[],0⟩ b:=fun b hb=>⟨fun id _ hl he=>by
  obtain ⟨_,e2,e3⟩:=QY he
  exact hb e3 e2,fun t lo hi2 ht=>by simp at ht⟩
 have kl:L≠ []→H.liveAt k∧H.ro≤k:=fun hne=>by
  rcases hL with rfl|⟨es',el',rfl,h1,h2,h3⟩
  · exact absurd rfl hne
  · exact ⟨⟨_,h1,trivial⟩,h3⟩
 have nk:∀ {i b},H.liveAt i→(L≠ []→i≠k)→g.σ i=some b→L≠ []→g.σ k≠some b:=fun {i b} hl hik hs hne hk=>hik hne (hi.inj i k b hl (kl hne).1 hs hk)
 have liveI:∀ i,i≠N→(⟨bxK H.bx L k++ [B],H.ro,H.live,H.nt⟩:Heap).liveAt i→H.liveAt i∧(L≠ []→i≠k):=fun i hiN hl=>by
  obtain ⟨b,hb,hal⟩:=hl
  have hlt:i<(bxK H.bx L k).length:=by
   have:=ZJ hb
   simp only [List.length_append,List.length_singleton,Xu] at this
   rw [Xu];omega
  rw [List.getElem?_append_left hlt] at hb
  by_cases hik:k=i
  · subst hik
    cases L with
    | nil=>exact ⟨⟨b,hb,hal⟩,fun h=>absurd rfl h⟩
    | cons a r =>
      simp only [bxK] at hb hlt
      rw [List.getElem?_set_self (by simpa using hlt)] at hb
      cases hb
      exact hal.elim
  · rw [ZdG hik] at hb
    exact ⟨⟨b,hb,hal⟩,fun _ e=>hik e.symm⟩
 have σi:∀ i,i≠N→(g'.unslot g N j).σ i=g.σ i:=fun i h=>by simp [Gh.unslot,h]
 have Ji:∀ i,i≠N→(g'.unslot g N j).κ i=g.κ i:=fun i h=>by simp [Gh.unslot,h]
 have σN:(g'.unslot g N j).σ N=g'.σ j:=by simp [Gh.unslot]
 have JN:(g'.unslot g N j).κ N=g'.κ j:=by simp [Gh.unslot]
 have sN:g.σ N=none:=hi.sd N (by omega)
 have iN:∀ {i b},g.σ i=some b→i≠N:=fun {i b} h e=>by rw [e,sN] at h;cases h
 have le2:g.Le (g'.unslot g N j):=⟨fun b o v h=>K.le.S b o v h,fun i b h=>by rw [σi i (iN h)];exact h,fun t x h=>h,fun i b h=>Ji i (iN h),rfl⟩
 have le3:(g'.unslot g N j).S=g'.S:=rfl
 have nw:∀ b,g'.σ j=some b→w.heap.size≤b∨(L≠ []∧g.σ k=some b):=fun b hb=>by
  cases e:(g.slot L k).σ j with
  | some b0 =>
    obtain ⟨e1,e2,e3⟩:=QY e
    have:=K.le.σ _ _ e
    rw [hb] at this
    cases this
    exact .inr ⟨e3,e2⟩
  | none =>
    rcases K.new j b e hb with h3|⟨id',_,h4,h5⟩
    · exact .inl h3
    · obtain ⟨e1, e2, e3⟩ := QY h5
      exact .inr ⟨e3,e2⟩
 have apart:∀ {i b},H.liveAt i→(L≠ []→i≠k)→g.σ i=some b→g'.σ j≠some b:=fun {i b} hl hik hs hj=>by
  rcases nw b hj with h1|⟨h1,h2⟩
  · have:=hi.sz i b hs;omega
  · exact nk hl hik hs h1 h2
 have keepB:∀ {i b},H.liveAt i→(L≠ []→i≠k)→g.σ i=some b→w'.heap[b]? = w.heap[b]? ∧∀ o,g'.S b o=g.S b o:=fun {i b} hl hik hs=>
  ⟨K.heap b (hi.sz i b hs) (sh b (nk hl hik hs)),K.store b (hi.sz i b hs) (sh b (nk hl hik hs))⟩
 have getI:∀ i x,i≠N→(bxK H.bx L k++ [B])[i]? = some x→x.alive→H.bx[i]? = some x∧H.liveAt i∧(L≠ []→i≠k):=fun i x hiN hx hal=>by
  obtain ⟨h1,h2⟩:=liveI i hiN ⟨x,hx,hal⟩
  refine ⟨?_,h1,h2⟩
  have hlt:i<(bxK H.bx L k).length:=by
   have:=ZJ hx
   simp only [List.length_append,List.length_singleton,Xu] at this
   rw [Xu];omega
  rw [List.getElem?_append_left hlt] at hx
  cases L with
  | nil=>exact hx
  | cons a r =>
    rw [ZdG (fun e=>h2 (by simp) e.symm)] at hx
    exact hx
 have getN:(bxK H.bx L k++ [B])[N]? = some B:=by
  rw [List.getElem?_append_right (by rw [Xu];omega),Xu,hN]
  simp
 refine ⟨g'.unslot g N j,hr g' _ v rfl ⟨σN,JN⟩ hp,⟨hi'.st,fun id es el e=>?_,fun id es e=>?_,fun id T cs e=>?_,fun a b x h1 h2 h3 h4=>?_,fun id e=>?_,hi.td,fun t b lo hi2 ht hτ=>?_,hi.tinj,hi.nd,hi.lt,fun id b e=>?_,?_,fun id b c T m h1 h2 h3=>?_⟩,
  ⟨le2,fun b hb hs=>K.heap b hb (sh b fun hne=>hs.1 k (kl hne).2 (kl hne).1),fun b hb hs=>K.store b hb (sh b fun hne=>hs.1 k (kl hne).2 (kl hne).1),K.size,fun id b e1 e2=>?_,fun t b lo hi2 e1 e2=>?_,rfl,?_,fun id e=>?_,Nat.le_refl _,fun t e=> .inl e,fun id b e1 e2=>(liveI id (iN e1) e2).1,fun id e1 e2=>?_,K.so⟩⟩
 · by_cases hid : id = N
   · subst hid
     rw [getN] at e
     cases e
     rcases hB with h0|⟨es',el',D,h0,h1,h2⟩
     · cases h0
     · cases h0
       obtain ⟨b,c,T,a1,a2,a3,a4,a5,a6⟩:=hi'.bx _ _ _ h1
       have hm:=Nat.mul_le_mul_right es (show el.length≤(el++D).length by simp)
       refine ⟨b,c,T,by rw [σN];exact a1,a2,fun i hi0=>?_,by omega,fun i hi0 q hq=>?_,a6⟩
       · have := a3 i (by rw [List.length_append]; omega)
         rwa [List.getElem_append_left hi0] at this
       · have := a5 i (by rw [List.length_append]; omega) q (by rw [List.getElem_append_left hi0]; exact hq)
         simp only [List.getElem_append_left hi0] at this
         obtain ⟨v,x,y⟩:=this
         exact ⟨v,x,ZdC h2 le3 hi0 hq y⟩
   · obtain ⟨h1, h2, h3⟩ := getI id _ hid e trivial
     obtain ⟨b,c,T,a1,a2,a3,a4,a5,a6⟩:=hi.bx _ _ _ h1
     obtain ⟨q1,q2⟩:=keepB h2 h3 a1
     exact ⟨b,c,T,by rw [σi id hid];exact a1,by rw [q1];exact a2,a3,a4,fun i hi0 q hq=>let ⟨v,x,y⟩:=a5 i hi0 q hq;⟨v,x,y.mono le2⟩,fun o=>(q2 o).trans (a6 o)⟩
 · by_cases hid : id = N
   · subst hid
     rw [getN] at e
     cases e
     rcases hB with h0|⟨es',el',D,h0,h1,h2⟩<;>cases h0
   · obtain ⟨h1, h2, h3⟩ := getI id _ hid e trivial
     obtain ⟨b,c,T,a1,a2,a3,a4,a5⟩:=hi.mp _ _ h1
     obtain ⟨q1,q2⟩:=keepB h2 h3 a1
     exact ⟨b,c,T,by rw [σi id hid];exact a1,by rw [q1];exact a2,a3,fun i hi0=>let ⟨z,x,y,y'⟩:=a4 i hi0;⟨z,x,y.mono le2,y'.mono le2⟩,fun o=>(q2 o).trans (a5 o)⟩
 · by_cases hid : id = N
   · subst hid
     rw [getN] at e
     cases e
     rcases hB with h0|⟨es',el',D,h0,h1,h2⟩<;>cases h0
   · obtain ⟨h1, h2, h3⟩ := getI id _ hid e trivial
     obtain ⟨b,c,a1,a2,a3,a4,a5⟩:=hi.sp _ _ _ h1
     obtain ⟨q1,q2⟩:=keepB h2 h3 a1
     exact ⟨b,c,by rw [σi id hid];exact a1,by rw [q1];exact a2,a3,fun i hi0=>let ⟨z,x,y⟩:=a4 i hi0;⟨z,x,y.mono le2⟩,fun o=>(q2 o).trans (a5 o)⟩
 · by_cases ha0 : a = N <;> by_cases hb0 : b = N
   · rw [ha0,hb0]
   · rw [ha0, σN] at h3
     rw [σi b hb0] at h4
     obtain ⟨p1,p2⟩:=liveI b hb0 h2
     exact absurd h3 (apart p1 p2 h4)
   · rw [hb0, σN] at h4
     rw [σi a ha0] at h3
     obtain ⟨p1,p2⟩:=liveI a ha0 h1
     exact absurd h4 (apart p1 p2 h3)
   · rw [σi a ha0] at h3
     rw [σi b hb0] at h4
     exact hi.inj a b x (liveI a ha0 h1).1 (liveI b hb0 h2).1 h3 h4
 · have e : N + 1 ≤ id := by simpa [Xu, hN] using e
   rw [σi id (by omega)]
   exact hi.sd id (by omega)
 · obtain ⟨⟨c, T, a1, a2⟩, a3, a4⟩ := hi.tk t b lo hi2 ht hτ
   have hb:b<w.heap.size:=by
    rcases Nat.lt_or_ge b w.heap.size with h'|h'
    · exact h'
    · simp [Array.getElem?_eq_none h'] at a1
   have hsh:=sh b fun hne=>a4 k (kl hne).1
   refine ⟨⟨c,T,by rw [K.heap b hb hsh];exact a1,a2⟩,fun o ho=>(K.store b hb hsh o).trans (a3 o ho),fun id hl he=>?_⟩
   by_cases hid:id=N
   · rw [hid, σN] at he
     rcases nw b he with h1|⟨h1,h2⟩
     · omega
     · exact a4 k (kl h1).1 h2
   · rw [σi id hid] at he
     exact a4 id (liveI id hid hl).1 he
 · by_cases hid : id = N
   · rw [hid,σN] at e;exact hi'.sz j b e
   · rw [σi id hid] at e;exact Nat.lt_of_lt_of_le (hi.sz id b e) K.size
 · have := hi.ro
   simp only [List.length_append,Xu,List.length_singleton];omega
 · by_cases hid : id = N
   · subst hid
     obtain ⟨x,hx,hal⟩:=h1
     rw [getN] at hx
     cases hx
     rw [σN] at h2
     rw [JN]
     rcases hB with rfl|⟨es',el',D,rfl,q1,q2⟩
     · exact hal.elim
     · exact hi'.rm j b c T m ⟨_,q1,trivial⟩ h2 h3
   · rw [σi id hid] at h2
     rw [Ji id hid]
     obtain ⟨p1,p2⟩:=liveI id hid h1
     rw [(keepB p1 p2 h2).1] at h3
     exact hi.rm id b c T m p1 h2 h3
 · by_cases hid : id = N
   · rw [hid, σN] at e2
     rcases nw b e2 with h1|⟨h1,h2⟩
     · exact .inl h1
     · exact .inr ⟨k,(kl h1).2,(kl h1).1,h2⟩
   · rw [σi id hid,e1] at e2;cases e2
 · rw [show (g'.unslot g N j).τ t=g.τ t from rfl,e1] at e2;cases e2
 · simp only [List.length_append,Xu,List.length_singleton];omega
 · have hidl : id < H.bx.length := Nat.lt_of_lt_of_le e hi.ro
   show (bxK H.bx L k++ [B])[id]? = H.bx[id]?
   rw [List.getElem?_append_left (by rw [Xu];exact hidl)]
   cases L with
   | nil=>rfl
   | cons a r=>exact ZdG (by have:=(kl (by simp)).2;have e:id<H.ro:=e;omega)
 · have e1 : id < N := by rw [hN]; exact e1
   rw [σi id (by omega)];exact e2
theorem Zb7 {g g0:Gh} {k0 ix n:Nat} (h1:g0.σ k0=g.σ k) (h2:g0.κ k0=g.κ k) (h:V g (.own k es ix n) v):V g0 (.own k0 es ix n) v:=by
 cases h with
 |pure _ _ h=>cases h
 |own _ _ _ _ b cap a h hc ha hsp hk=>exact .own _ _ _ _ b cap a (h1.trans h) hc ha hsp ⟨by rw [h2];exact hk.1,hk.2⟩
theorem ZaB {g g0:Gh} (hS:g0.S=g.S) (hf:frzG p=some p) (h:V g p v):V g0 p v:= .pure _ _ (hS ▸ V7 h hf)
theorem Zc7 {g g0:Gh} (hS:g0.S=g.S) {ax:List PV} {l:List Value} (hf:Zt ax=some ax) (h:VL g ax l):VL g0 ax l:=by
 obtain ⟨-,h2⟩:=Wg hf
 exact ⟨h.1,fun i h1 h3=>ZaB hS (h2 i h1 h1) (h.2 i h1 h3)⟩
inductive Mut (es:Nat) (bx:List Box):PV→List (List PV)→Prop
 |nil:Mut es bx .nils []
 |own (k:Nat) (el:List (List PV)) (h:bx[k]? = some (.cells es el)):Mut es bx (.own k es 0 el.length) el
inductive Mut0 (es:Nat):PV→List Box→List (List PV)→Prop
 |nil:Mut0 es .nils [] []
 |own (el:List (List PV)):Mut0 es (.own 0 es 0 el.length) [.cells es el] el
inductive Out (es:Nat) (H1:Heap):PV→List (List PV)→Prop
 |nil:Out es H1 .nils []
 |own (j:Nat) (el D:List (List PV)) (h:H1.bx[j]? = some (.cells es (el++D))) (hf:Y0 el=some el):Out es H1 (.own j es 0 el.length) el
theorem Zjh {own : Tmp → Bool} {n : Nat} {K : TM → Heap → Prop} {tm : TM} {H : Heap} {t : TypeId} {x y : Operand}
  (hw:Zc all tm ⟨some d,.call {callee:= .builtin .append,args:= #[x,y],argTypes:= #[t,u]},ty,pos,aft,grd⟩=some true) (hn:Nat.blt d n=true) (ho:own d=true) (hx:Zd E tm x=X) (hy:Zd E tm y=Y) (h:Xe E t u X Y H=some (p,H1))
  (hr:RegQ E P own n all r K (ZE tm (some d) p) H1):RegQ E P own n all (⟨some d,.call {callee:= .builtin .append,args:= #[x,y],argTypes:= #[t,u]},ty,pos,aft,grd⟩::r) K tm H:=
 .op (p:=p) hw (by simp only [Y8,hn]) (by simp [aOp,Yh,ho,hx,hy,h]) hr
theorem ZjF {own : Tmp → Bool} {n : Nat} {K : TM → Heap → Prop} {tm : TM} {t : TypeId} {m : Nat} {ps : Array (Nat × Operand)}
  (hw:Zc ops.toList tm ⟨some d,.buildSlice t m ps,ty,pos,aft,grd⟩=some true) (hn:Nat.blt d n=true) (ho:own d=true) (h:Z8 E t m (ps.toList.map fun p=>(p.1,Zd E tm p.2))=some (es,el))
  (hr:DrwQ E P own n ops n0 (i+1) r K (ZE tm (some d) (.own bx.length es 0 m)) ⟨bx++ [.cells es el],ro,lv,nt⟩):DrwQ E P own n ops n0 i (⟨some d,.buildSlice t m ps,ty,pos,aft,grd⟩::r) K tm ⟨bx,ro,lv,nt⟩:=by
 have hc:Yx E own ⟨some d,.buildSlice t m ps,ty,pos,aft,grd⟩= .tk:=by simp [Yx,ho]
 refine .stepN (p:= .own bx.length es 0 m) (H1:=⟨bx++ [.cells es el],ro,lv,nt⟩) (by simp only [Y8,hn]) (.inr (.inr ⟨hc,fun j b hj=>by rw [List.getElem?_append_left (ZJ hj)];exact hj⟩)) (fun ho'=>?_) hr
 have hci:=(Y2 (E:=E) (own:=own) ho').trans hc
 refine ⟨by rw [hci];simp,.inr (.inl ⟨by rw [hci];exact ⟨by simp,by simp,by simp⟩,?_⟩)⟩
 have:=Hp.tk (E:=E) (P:=P) (own:=own) (ops:=ops) (n0:=n0) (cls:=YA E own ops) (tgt:=fun _=>n0) (msk:=fun _=>[]) (i:=i) (o:=⟨some d,.buildSlice t m ps,ty,pos,aft,grd⟩) (tm:=tm) ⟨bx,ro,lv,nt⟩ (.own bx.length es 0 m) ⟨bx++ [.cells es el],bx.length,lv,nt⟩ hw hci
  (.op _ _ (by simp only [aOp,Option.getD_some,h,ho,if_true];rfl)) (by simp)
 have e:Y5 ⟨bx,ro,lv,nt⟩ ⟨bx++ [.cells es el],bx.length,lv,nt⟩=⟨bx++ [.cells es el],ro,lv,nt⟩:=by simp [Y5]
 rw [e] at this
 exact this
end
section
variable {E:Env} {P:Program} {own:Tmp→Bool} {n:Nat} {K:TM→Heap→Prop} {tm:TM} {H:Heap}
theorem dCe {f : Operand} {args : Array Operand} {k : FuncId}
  (hw:Zc ops.toList tm ⟨some d,.call {callee:= .value f,args:=args,argTypes:=ats},ty,pos,aft,grd⟩=some true) (hn:Nat.blt d n=true) (hf:Zd E tm f= .fn k caps)
  (ha:args.toList.map (Zd E tm)++caps=al) (hc:Yx E own ⟨some d,.call {callee:= .value f,args:=args,argTypes:=ats},ty,pos,aft,grd⟩= .ef) (h:CallOk E P k al H p H1) (hl:H.bx.length≤H1.bx.length)
  (hr:DrwQ E P own n ops n0 (i+1) r K (ZE tm (some d) p) H1):DrwQ E P own n ops n0 i (⟨some d,.call {callee:= .value f,args:=args,argTypes:=ats},ty,pos,aft,grd⟩::r) K tm H:=by
 refine .stepN (p:=p) (H1:=H1) (by simp only [Y8,hn]) (.inr (.inl hc)) (fun ho'=>?_) hr
 have hci:=(Y2 (E:=E) (own:=own) ho').trans hc
 refine ⟨by rw [hci];simp,.inr (.inl ⟨by rw [hci];exact ⟨by simp,by simp,by simp⟩,?_⟩)⟩
 have:=Hp.ef (E:=E) (P:=P) (own:=own) (ops:=ops) (n0:=n0) (cls:=YA E own ops) (tgt:=fun _=>n0) (msk:=fun _=>[]) (i:=i) (o:=⟨some d,.call {callee:= .value f,args:=args,argTypes:=ats},ty,pos,aft,grd⟩) (tm:=tm) H p H1 hw hci
  (.call _ _ _ _ _ _ _ rfl hf (by rw [ha];exact h)) hl
 exact this
end
section
variable {E:Env} {P:Program}
def Gh.lay (g' g:Gh):Gh:={g' with σ:=g.σ,κ:=g.κ}
theorem CallOk.over {r:PV} (h:CallOk E P f args ⟨[],0,lv,nt⟩ r ⟨[],0,lv',nt'⟩) (hu:Zo 0 args=true) (bx:List Box) (ro:Nat):CallOk E P f args ⟨bx,ro,lv,nt⟩ r ⟨bx,ro,lv',nt'⟩:=by
 intro g w vals hi hg hv
 have hi0:Inv g ⟨bx,0,lv,nt⟩ w:=⟨hi.st,hi.bx,hi.mp,hi.sp,hi.inj,hi.sd,hi.td,hi.tk,hi.tinj,hi.nd,hi.lt,hi.sz,Nat.zero_le _,hi.rm⟩
 have hic:=Qr (n:=0) hi0 (Nat.zero_le _) (Nat.le_refl _) rfl
 simp only [List.take_zero] at hic
 have hvc:VL (g.cutσ 0) args vals.toList:=⟨hv.1,fun i h1 h2=>(hv.2 i h1 h2).cut (YF hu i h1)⟩
 refine UponCall.mono (fun v w' ⟨g',hp,hi',k⟩=>?_) (h (g.cutσ 0) w vals hic hg hvc)
 have hsd:∀ i,g'.σ i=none:=fun i=>hi'.sd i (Nat.zero_le _)
 have dead:∀ {ro nt:Nat} {lv:List Nat} {i:Nat},¬ (⟨[],ro,lv,nt⟩:Heap).liveAt i:=fun h=>by
  obtain ⟨b,hb,_⟩:=h
  simp at hb
 have le1:g'.Le (g'.lay g):=⟨fun _ _ _ h=>h,fun i b h=>(by rw [hsd i] at h;cases h),fun _ _ h=>h,fun i b h=>(by rw [hsd i] at h;cases h),rfl⟩
 have le2:g.Le (g'.lay g):=⟨fun b o v h=>k.le.S b o v h,fun i b h=>h,fun t x h=>k.le.τ t x h,fun i b _=>rfl,k.le.mono⟩
 have shutE:∀ j b,(⟨bx,ro,lv,nt⟩:Heap).liveAt j→g.σ j=some b→Shut (g.cutσ 0) ⟨[],0,lv,nt⟩ b:=fun j b hlj hs=>
  ⟨fun id _ hlid he=>(dead hlid).elim,fun t lo hi2 ht he=>(hi.tk t b lo hi2 ht he).2.2 j hlj hs⟩
 have heapE:∀ j b,(⟨bx,ro,lv,nt⟩:Heap).liveAt j→g.σ j=some b→w'.heap[b]? = w.heap[b]? ∧∀ o,g'.S b o=g.S b o:=fun j b hlj hs=>
  ⟨k.heap b (hi.sz j b hs) (shutE j b hlj hs),k.store b (hi.sz j b hs) (shutE j b hlj hs)⟩
 refine ⟨g'.lay g,hp.mono le1,⟨hi'.st,fun id es el h=>?_,fun id es h=>?_,fun id T cs h=>?_,hi.inj,hi.sd,hi'.td,fun t b lo hi2 ht hτ=>?_,hi'.tinj,hi'.nd,hi'.lt,fun id b h=>Nat.lt_of_lt_of_le (hi.sz id b h) k.size,hi.ro,fun id b c T m h1 h2 h3=>?_⟩,
  ⟨le2,fun b hb hs=>k.heap b hb ⟨fun _ _ hl=>(dead hl).elim,hs.2⟩,fun b hb hs=>k.store b hb ⟨fun _ _ hl=>(dead hl).elim,hs.2⟩,k.size,fun id b h h'=>?_,fun t b lo hi2 h h'=>k.tnew t b lo hi2 h h',rfl,Nat.le_refl _,fun id _=>rfl,k.nt,k.lv,fun id b _ h'=>h',fun id _ h'=>h',k.so⟩⟩
 · obtain ⟨b, c, T, h1, h2, h3, h4, h5, h6⟩ := hi.bx id es el h
   obtain ⟨hh,hS⟩:=heapE id b ⟨_,h,trivial⟩ h1
   exact ⟨b,c,T,h1,by rw [hh];exact h2,h3,h4,fun i hi0 j hj=>let ⟨v,a,x⟩:=h5 i hi0 j hj;⟨v,a,x.mono le2⟩,fun o=>(hS o).trans (h6 o)⟩
 · obtain ⟨b, c, T, h1, h2, h3, h4, h5⟩ := hi.mp id es h
   obtain ⟨hh,hS⟩:=heapE id b ⟨_,h,trivial⟩ h1
   exact ⟨b,c,T,h1,by rw [hh];exact h2,h3,fun i hi0=>let ⟨a,z,x,y⟩:=h4 i hi0;⟨a,z,x.mono le2,y.mono le2⟩,fun o=>(hS o).trans (h5 o)⟩
 · obtain ⟨b, c, h1, h2, h3, h4, h5⟩ := hi.sp id T cs h
   obtain ⟨hh,hS⟩:=heapE id b ⟨_,h,trivial⟩ h1
   exact ⟨b,c,h1,by rw [hh];exact h2,h3,fun j hj=>let ⟨v,a,x⟩:=h4 j hj;⟨v,a,x.mono le2⟩,fun o=>(hS o).trans (h5 o)⟩
 · obtain ⟨h3, h5, -⟩ := hi'.tk t b lo hi2 ht hτ
   refine ⟨h3,h5,fun id hlid he=>?_⟩
   have he:g.σ id=some b:=he
   cases e:(g.cutσ 0).τ t with
   | some x =>
     have:=k.le.τ _ _ e
     have hτ':g'.τ t=some (b,lo,hi2):=hτ
     rw [hτ'] at this
     cases this
     rcases k.lv t ht with h7|h7
     · exact (hi.tk t b lo hi2 h7 e).2.2 id hlid he
     · rw [show (g.cutσ 0).τ t=g.τ t from rfl,hi.td t h7] at e;cases e
   | none =>
     rcases k.tnew t b lo hi2 e hτ with h7|⟨t',lo',hi3,h8,h9⟩
     · have:=hi.sz id b he;omega
     · exact (hi.tk t' b lo' hi3 h8 h9).2.2 id hlid he
 · have h2 : g.σ id = some b := h2
   rw [(heapE id b h1 h2).1] at h3
   exact hi.rm id b c T m h1 h2 h3
 · have h' : g.σ id = some b := h'
   rw [h] at h'
   cases h'
theorem CodeTo.switch {own own':Tmp→Bool} {n id:Nat} {tm tm':TM} {H:Heap} {ex:Ex} (h:CodeTo E P own' n c tm H ex tm' H'):c= .region id ops true→CodeTo E P own n c tm H ex tm' H':=by
 induction h with
 |draw id ops tm H tm' H' h=>intro _;exact .draw id ops tm H tm' H' h
 |drop c tm H ex tm' H' tm2 _ hs hu ih=>intro hc;exact .drop c tm H ex tm' H' tm2 (ih hc) hs hu
 |_=>intro hc;cases hc
theorem Wp.switch {own:Tmp→Bool} (own':Tmp→Bool) {n id:Nat} {ops:Array Oper} {Q:Ex→TM→Heap→Prop} {tm:TM} {H:Heap} (h:Wp E P own' n (.region id ops true) Q tm H):Wp E P own n (.region id ops true) Q tm H:=by
 obtain ⟨ex,tm',H',h1,h2⟩:=h.out
 exact ⟨ex,tm',H',h1.switch rfl,h2⟩
end
section
variable {E:Env} {P:Program} {own:Tmp→Bool} {n:Nat} {K:TM→Heap→Prop} {tm:TM}
theorem dCt {f : Operand} {args : Array Operand} {k : FuncId}
  (hw:Zc ops.toList tm ⟨some d,.call {callee:= .value f,args:=args,argTypes:=ats},ty,pos,aft,grd⟩=some true) (hn:Nat.blt d n=true) (hf:Zd E tm f= .fn k caps)
  (ha:args.toList.map (Zd E tm)++caps=al) (hc:Yx E own ⟨some d,.call {callee:= .value f,args:=args,argTypes:=ats},ty,pos,aft,grd⟩= .tk) (h:CallOk E P k al ⟨bx,bx.length,lv,nt⟩ p ⟨bx,bx.length,lv',nt'⟩)
  (hr:DrwQ E P own n ops n0 (i+1) r K (ZE tm (some d) p) ⟨bx,ro,lv',nt'⟩):DrwQ E P own n ops n0 i (⟨some d,.call {callee:= .value f,args:=args,argTypes:=ats},ty,pos,aft,grd⟩::r) K tm ⟨bx,ro,lv,nt⟩:=by
 have e:Y5 ⟨bx,ro,lv,nt⟩ ⟨bx,bx.length,lv',nt'⟩=⟨bx,ro,lv',nt'⟩:=by simp [Y5]
 refine .stepN (p:=p) (H1:=⟨bx,ro,lv',nt'⟩) (by simp only [Y8,hn]) (.inr (.inr ⟨hc,fun j b hj=>hj⟩)) (fun ho'=>?_) hr
 have hci:=(Y2 (E:=E) (own:=own) ho').trans hc
 refine ⟨by rw [hci];simp,.inr (.inl ⟨by rw [hci];exact ⟨by simp,by simp,by simp⟩,?_⟩)⟩
 have:=Hp.tk (E:=E) (P:=P) (own:=own) (ops:=ops) (n0:=n0) (cls:=YA E own ops) (tgt:=fun _=>n0) (msk:=fun _=>[]) (i:=i) (o:=⟨some d,.call {callee:= .value f,args:=args,argTypes:=ats},ty,pos,aft,grd⟩) (tm:=tm) ⟨bx,ro,lv,nt⟩ p ⟨bx,bx.length,lv',nt'⟩ hw hci
  (.call _ _ _ _ _ _ _ rfl hf (by rw [ha];exact h)) (Nat.le_refl _)
 rw [e] at this
 exact this
theorem dCu {f : Operand} {args : Array Operand} {k : FuncId} {ext : List Box}
  (hw:Zc ops.toList tm ⟨some d,.call {callee:= .value f,args:=args,argTypes:=ats},ty,pos,aft,grd⟩=some true) (hn:Nat.blt d n=true) (hf:Zd E tm f= .fn k caps)
  (ha:args.toList.map (Zd E tm)++caps=al) (hc:Yx E own ⟨some d,.call {callee:= .value f,args:=args,argTypes:=ats},ty,pos,aft,grd⟩= .tk) (h:CallOk E P k al ⟨bx,bx.length,lv,nt⟩ p ⟨bx++ext,bx.length,lv',nt'⟩)
  (hr:DrwQ E P own n ops n0 (i+1) r K (ZE tm (some d) p) ⟨bx++ext,ro,lv',nt'⟩):DrwQ E P own n ops n0 i (⟨some d,.call {callee:= .value f,args:=args,argTypes:=ats},ty,pos,aft,grd⟩::r) K tm ⟨bx,ro,lv,nt⟩:=by
 have e:Y5 ⟨bx,ro,lv,nt⟩ ⟨bx++ext,bx.length,lv',nt'⟩=⟨bx++ext,ro,lv',nt'⟩:=by simp [Y5]
 refine .stepN (p:=p) (H1:=⟨bx++ext,ro,lv',nt'⟩) (by simp only [Y8,hn]) (.inr (.inr ⟨hc,fun j b hj=>by rw [List.getElem?_append_left (ZJ hj)];exact hj⟩)) (fun ho'=>?_) hr
 have hci:=(Y2 (E:=E) (own:=own) ho').trans hc
 refine ⟨by rw [hci];simp,.inr (.inl ⟨by rw [hci];exact ⟨by simp,by simp,by simp⟩,?_⟩)⟩
 have:=Hp.tk (E:=E) (P:=P) (own:=own) (ops:=ops) (n0:=n0) (cls:=YA E own ops) (tgt:=fun _=>n0) (msk:=fun _=>[]) (i:=i) (o:=⟨some d,.call {callee:= .value f,args:=args,argTypes:=ats},ty,pos,aft,grd⟩) (tm:=tm) ⟨bx,ro,lv,nt⟩ p ⟨bx++ext,bx.length,lv',nt'⟩ hw hci
  (.call _ _ _ _ _ _ _ rfl hf (by rw [ha];exact h)) (by simp)
 rw [e] at this
 exact this
end
section
variable {E:Env} {P:Program}
theorem Xa {r:PV} {H:Heap} (h:CallOk E P f args' H r H') (ha:Zt args=some args'):CallOk E P f args H r H':=by
 intro g w vals hi hg hv
 obtain ⟨l1,l2⟩:=Wg ha
 exact h g w vals hi hg ⟨by rw [l1];exact hv.1,fun i h1 h2=>V.pure (g:=g) _ _ (show V0 g.S _ _ from V7 (hv.2 i (by omega) h2) (l2 i (by omega) h1))⟩
end
def ZaP (i:Nat):Zg:=[UInt8.ofNat (48+i)]
def VP (i:Nat):Zg:=115::ZaP i
def ZcT:Zg:=[114,101,113,117,101,115,116]
def wCk:Zg:=[99,107]
def Na.tag1 (n:Na) (i:Nat):Na:=
 (n.with (nnF n.nms (VP i))).repl i (apT ZN [atT (nnF n.nms (VP i)),((n.steps[i]?).map (·.msg)).getD (atT [])])
def Na.tagL:Na→Nat→Nat→Na
 |n,_,0=>n
 |n,i,m+1=>(n.tag1 i).tagL (i+1) m
def Na.tagsF (n:Na):Na×Int:=if n.chk.2≠0 then (.none,n.chk.2) else (n.tagL 0 n.steps.length).chkd
def Na.freshen (n:Na) (f:Fr):Na:={n with fn:=false,fresh:=n.fresh++ [f]}
def ckT (k a:Zg):Tm:=apT WA [apT ZN [atT k,atT a]]
def Na.cook (n:Na) (x:Sp):Na:=
 let r:=nnF n.nms ZcT
 let o:=n.with r
 let k:=nnF o.nms wCk
 {o.freshen ⟨x.to,k,3⟩ with sn:=false,steps:=⟨x.frm,x.to,atT r,0⟩::⟨x.to,x.frm,ckT k x.frm,0⟩::{x with msg:=apT ZN [ckT k x.frm,x.msg]}::n.steps.drop 1}
def Na.cookF (n:Na):Na×Int:=if n.chk.2≠0 then (.none,n.chk.2) else match n.steps[0]? with
 |some x=>(n.cook x).chkd
 |Option.none=>(.none,0)
def Na.wrapF (n:Na) (step:Int):Na×Int:=
 if n.inE step≠0 then (.none,n.inE step) else match n.steps[step.toNat]? with
 |some x=>(n.repl step.toNat (apT Vb [x.msg,apT nPk [apT nSk [atT x.to]]])).chkd
 |Option.none=>(.none,0)
theorem Uc (N:List Zg) (L:Nat) (hN:∀ s,s∈N→s.length≤L):∀ (f:Nat) (w:Zg),w.length≤L+1→(nnW N f w).length≤L+1
 |0,w,h=>by simpa [nnW] using h
 | f + 1, w, h => by
   simp only [nnW]
   split
   · rename_i h1
     have h2:=hN w (V3.1 h1)
     exact Uc N L hN f (w++ [95]) (by simp;omega)
   · exact h
variable {P:Program}
theorem Y7 (w : World) (dT sT ty elem : TypeId) (sz : Nat) (b o dLen dCap : Nat) (a : Addr) (sLen sCap : Nat) (cs : List Value)
  (hu:P.underlying dT=some (.slice elem)) (hs:(P.info? elem).map (·.size)=some sz) (hn:cs.length=Nat.min sLen dLen*sz)
  (hsrc:∀ j v,cs[j]? = some v→w.cell? (a.add j)=some v) (hc:∀ j,j<cs.length→(w.cell? ⟨b,o+j,none⟩).isSome=true) (hf:∀ j,j<cs.length→w.frozen? ⟨b,o+j,none⟩=false) (h1:∀ v∈cs,v.oneCell'=true) :
  (Builtin.copy_ #[dT,sT] ty #[.slice (some ⟨b,o,none⟩) dLen dCap,.slice (some a) sLen sCap]).run P w= .ok (goInt (Nat.min sLen dLen)) (w.setCells b o cs):=by
 have hl:=run_loadCells_list (P:=P) w a cs hsrc
 have hst:=run_storeCells_cells (P:=P) b o cs 0 w (by simpa using hc) (by simpa using hf) h1
 cases hq:P.info? elem with
 |none=>simp [hq] at hs
 | some i =>
   have hi:i.size=sz:=by simpa [hq] using hs
   rw [hn] at hl
   simp [Builtin.copy_,run_underlying hu,Builtin.lenOf,Builtin.firstCells,sizeOf,typeInfo,hq,hi,hl,hst]
section
variable {g:Gh} {H:Heap} {w:World}
theorem Wt (b:Nat):∀ (vs:List Value) (o:Nat) (w:World),(w.setCells b o vs).heap.size=w.heap.size
 | [],_,_=>rfl
 |v::r,o,w=>by rw [World.setCells,Wt b r];simp [World.setCell]
theorem Xq {c : Array Value} {T : TypeId} {fr : Nat × Nat} (h : w.heap[b]? = some (.cells c T fr)) (vs : List Value) (o : Nat) (hsz : o + vs.length ≤ c.size) :
  ∃ c',(w.setCells b o vs).heap[b]? = some (.cells c' T fr)∧c'.size=c.size∧(∀ j (hj:j<vs.length),c'[o+j]? = some vs[j])∧(∀ j,j<o∨o+vs.length≤j→c'[j]? = c[j]?)∧
   (∀ k,k≠b→(w.setCells b o vs).heap[k]? = w.heap[k]?)∧(w.setCells b o vs).heap.size=w.heap.size∧((w.setCells b o vs).os=w.os∧(w.setCells b o vs).output=w.output)∧∀ a,(w.setCells b o vs).frozen? a=w.frozen? a:=by
 have hk:=World.keptBut_setCells b (may:=fun p=>∃ j,j<vs.length∧p= .cell b (o+j)) vs o w (fun j hj=>⟨j,hj,rfl⟩)
 have hb:b<w.heap.size:=by
  rcases Nat.lt_or_ge b w.heap.size with h'|h'
  · exact h'
  · simp [Array.getElem?_eq_none h'] at h
 have hs:=Wt b vs o w
 have hcell:∀ j,w.cell? ⟨b,j,none⟩=c[j]? :=fun j=>by simp [World.cell?,h]
 have hin:=World.cell?_setCells_in b vs o w (fun j hj=>by rw [hcell,Array.getElem?_eq_getElem (by omega)];rfl)
 have h1:=hk.2.2 b hb
 rw [h] at h1
 cases h2:(w.setCells b o vs).heap[b]? with
 |none=>rw [h2] at h1;exact absurd h1 (by simp)
 | some ob =>
   rw [h2] at h1
   cases ob with
   | cells c' T' fr' =>
     obtain ⟨rfl,rfl,h3,h4⟩:=h1
     refine ⟨c',rfl,h3,fun j hj=>?_,fun j hj=>h4 j ?_,fun k hne=>?_,hs,⟨hk.1,hk.2.1⟩,World.frozen?_setCells b vs o w⟩
     · have := hin j hj
       simpa [World.cell?,h2] using this
     · rintro ⟨i, hi, e⟩
       simp only [MemPlace.cell.injEq,true_and] at e
       omega
     · rcases Nat.lt_or_ge k w.heap.size with hlt | hge
       · have h5 := hk.2.2 k hlt
         rw [Array.getElem?_eq_getElem hlt] at h5 ⊢
         rw [Array.getElem?_eq_getElem (by omega)] at h5 ⊢
         generalize w.heap[k]=x at h5
         generalize (w.setCells b o vs).heap[k]'(by omega)=y at h5
         cases x with
         | cells cx tx fx =>
           cases y with
           | cells cy ty fy =>
             obtain ⟨rfl,rfl,h6,h7⟩:=h5
             have:cy=cx:=Array.ext_getElem? fun j=>h7 j (by rintro ⟨i,_,e⟩;simp only [MemPlace.cell.injEq] at e;exact hne e.1)
             rw [this]
           | _=>simp at h5
         | map es cl =>
           cases y with
           | map es' cl' =>
             simp only at h5
             rcases h5 with ⟨i,_,e⟩|⟨rfl,rfl⟩
             · cases e
             · rfl
           | _=>simp at h5
         | _=>cases y<;>simp_all
       · rw [Array.getElem?_eq_none hge,Array.getElem?_eq_none (by omega)]
   | _=>simp at h1
theorem Zed {id:Nat} (hro:H.ro≤id) (w:World):Keep g H w g (ZG [id] H) w where
 le:= .refl g
 heap _ _ _:=rfl
 store _ _ _ _:=rfl
 size:=Nat.le_refl _
 new id b h h':=by rw [h] at h';cases h'
 tnew t b lo hi h h':=by rw [h] at h';cases h'
 ro:=rfl
 bxl:=by simp [ZG,Z3]
 bx i h:=by
  rw [XG,if_neg]
  rintro ⟨h1,_⟩
  simp only [List.mem_singleton] at h1
  omega
 nt:=Nat.le_refl _
 lv t h:= .inl h
 al _ _ _ h:=(Yj h).1
 ns _ _ h:=h
 so:= .rfls
theorem ZcR (hi:Inv g H w) {id:Nat} (hro:H.ro≤id) {F:Array Value} {T:TypeId} (hh:w'.heap=(w.alloc (.cells F T)).heap) (hso:SameOut g w w')
 (hw:∀ i (hi:i<el.length),(el[i]).length=es) (hle:el.length*es≤F.size)
  (hv:∀ i (hi:i<el.length) j (hj:j<(el[i]).length),∃ v,F[i*es+j]? = some v∧V g ((el[i])[j]) v) (K:Nat) (hK:K≤F.size) :
  Inv (g.link H.bx.length w.heap.size K) {H with bx:=H.bx.set id .dead++ [.cells es el]} w'∧Keep g H w (g.link H.bx.length w.heap.size K) {H with bx:=H.bx.set id .dead++ [.cells es el]} w':=by
 have hl:(ZG [id] H).bx.length=H.bx.length:=by simp [ZG,Z3]
 obtain ⟨i1,k1⟩:=WO (Zb2 hi [id]) (.cells F T) (.cells es el) rfl (fun es0 el0 h0=>by cases h0;exact ⟨F,T,rfl,hw,hle,hv⟩) (fun es h=>by cases h) K (fun c T m h=>by cases h;exact hK)
 rw [hl] at i1 k1
 have k2:Keep (g.link H.bx.length w.heap.size K) ((ZG [id] H).push (.cells es el)) (w.alloc (.cells F T)) (g.link H.bx.length w.heap.size K) ((ZG [id] H).push (.cells es el)) w':= .same hh hso
 have k3:=(Zed hro w).then hi k1
 exact ⟨i1.same hh,KeepN.then k3 hi k2⟩
end
open Go.RowKit
section
variable {E:Env} {P:Program} {w:World}
theorem Zdg {fn : Func} (hf : FnOk P f fn c) (hG : GOk E (wG w)) {r : PV} (h : CallOk E P f args hNil r hNil) {vals : Array Value} (hv : WC (wS w) args vals.toList) :
  Calls P f vals w fun e w'=>∃ v,e= .returned v∧(∃ g',V g' r v)∧GrownB w w'∧∀ k,k<w.heap.size→w'.heap[k]? = w.heap[k]? :=by
 have hu:=h (wG w) w vals (Zho w) hG ⟨hv.1,fun i h1 h2=> .pure _ _ (hv.2 i h1 h2)⟩
 rw [YX hf] at hu
 exact Calls.mono hu fun e w' ⟨v,e1,g',hp,_,k⟩=>⟨v,e1,⟨g',hp⟩,QR k,fun i hi=>k.heap i hi (We _ i)⟩
end
section
variable {P:Program} {H:Type} {enc:TypeId×Value→H} {w:World} {base:Nat} {spare:Nat→Bool} {held:Bool}
end
section
variable {T:TypeId→Option TI}
end
mutual
def wt:PV→Nat
 | .str s=>s.length+1
 | .sl _ _ el=>WN el+1
 |_=>1
def wtL:List PV→Nat
 | []=>0
 |c::r=>wt c+wtL r
def WN:List (List PV)→Nat
 | []=>0
 |c::r=>wtL c+WN r
end
theorem UZ:∀ a b:List PV,wtL (a++b)=wtL a+wtL b
 | [],b=>by simp [wtL]
 |c::a,b=>by simp only [List.cons_append,wtL,UZ a b];omega
theorem Zg2:∀ p:PV,1≤wt p
 | .str s=>by simp [wt]
 | .sl _ _ el=>by simp [wt]
 | .bool _| .int _ _| .nilp| .ptr _ _ _ _| .fptr _ _| .nils| .own _ _ _ _| .nilm| .map _| .nilf| .fn _ _| .agg _| .tup _| .undef=>by simp [wt]
theorem Zbh:∀ l:List PV,l.length≤wtL l
 | []=>by simp [wtL]
 |c::r=>by have:=Zbh r;have:=Zg2 c;simp only [wtL,List.length_cons];omega
theorem ZbJ:∀ (l:List (List PV)),(∀ c,c∈l→0<c.length)→l.length≤WN l
 | [],_=>by simp [WN]
 | c :: r, h => by
   have:=ZbJ r fun c hc=>h c (List.mem_cons_of_mem _ hc)
   have:=h c List.mem_cons_self
   have:=Zbh c
   simp only [WN,List.length_cons]
   omega
theorem Zco:∀ {l:List (List PV)} {c:List PV},c∈l→wtL c≤WN l
 | x :: r, c, h => by
   simp only [WN]
   rcases List.mem_cons.1 h with rfl|h
   · omega
   · have:=Zco h;omega
theorem Zcy:∀ {l:List (List PV)} {b:List Nat},l.length=b.length→(∀ i (hi:i<l.length) (hj:i<b.length),wtL l[i]≤b[i])→WN l≤b.sum
 | [],[],_,_=>by simp [WN]
 | c :: r, x :: b, hl, h => by
   have h0:=h 0 (by simp) (by simp)
   have:=Zcy (l:=r) (b:=b) (by simpa using hl) fun i hi hj=>by
    have:=h (i+1) (by simp;omega) (by simp;omega)
    simpa using this
   simp only [WN,List.sum_cons]
   simp only [List.getElem_cons_zero] at h0
   omega
 | [],_::_,hl,_=>by simp at hl
 |_::_,[],hl,_=>by simp at hl
structure BulkOk {H:Type} (B:DataW H→Nat):Prop where
 lit:∀ l,1≤B (.lit l)
 str:∀ s,s.length+1≤B (.lit (.string s))
 nil:1≤B .nil
 slice:∀ e s,(e.map B).sum+1≤B (.slice e s)
 agg:∀ ps,(ps.map B).sum≤B (.agg ps)
theorem Ul {T : TypeId → Option TI} {cl : List TypeId} {S : X4} {cs : List Value} {n : Nat} (hn : cs.length = n) : ∀ (fs : List (Nat × TypeId)) (bs : List Nat) (o : Nat), fs.length = bs.length → VF T cl fs o n = true →
  (∀ q (hq:q<fs.length) (hb:q<bs.length) fi,fs[q].2∈cl→T fs[q].2=some fi→∃ pcs,Sh T fs[q].2 pcs∧WC S pcs ((cs.drop fs[q].1).take fi.size)∧wtL pcs≤bs[q])→
  ∃ rest,rest.length+o=n∧WC S rest (cs.drop o)∧wtL rest≤bs.sum∧∀ pre:List PV,pre.length=o→∀ o' ft fi,(o',ft)∈fs→T ft=some fi→Sh T ft (((pre++rest).drop o').take fi.size)
 | [], [], o, _, h, _ => by
   simp only [VF] at h
   have:=Nat.eq_of_beq_eq_true h
   subst this
   refine ⟨[],by simp,⟨by simp [hn],fun i hi=>absurd hi (by simp)⟩,by simp [wtL],fun _ _ _ _ _ h=>absurd h (by simp)⟩
 | (o1, ft) :: r, b :: bs, o, hl, h, hf => by
   simp only [VF,Bool.and_eq_true] at h
   obtain ⟨h1,h2,h3⟩:=h
   have:=Nat.eq_of_beq_eq_true h1
   subst this
   split at h3
   · rename_i fi hfi
     obtain ⟨pcs,hs,hc,hwt⟩:=hf 0 (by simp) (by simp) fi (Zdp h2) hfi
     simp only [List.getElem_cons_zero] at hs hc hwt
     have hle:=Zah h3
     obtain ⟨rest,r1,r2,rw_,r3⟩:=Ul hn r bs (o1+fi.size) (by simpa using hl) h3 fun q hq hb fi' hm hfi'=>by
      have:=hf (q+1) (by simp;omega) (by simp;omega) fi' (by simpa using hm) (by simpa using hfi')
      simpa using this
     have hl:pcs.length=fi.size:=by rw [← hc.1];simp;omega
     refine ⟨pcs++rest,by simp;omega,⟨by simp;omega,fun i hi hj=>?_⟩,by rw [UZ,List.sum_cons];omega,fun pre hp o' ft' fi' hm hfi'=>?_⟩
     · by_cases hlt : i < pcs.length
       · rw [List.getElem_append_left hlt]
         have:=hc.2 i hlt (by simp;omega)
         simpa using this
       · rw [List.getElem_append_right (by omega)]
         have:=r2.2 (i-pcs.length) (by simp at hi;omega) (by simp;simp at hi;omega)
         have e:o1+fi.size+(i-pcs.length)=o1+i:=by omega
         simpa only [List.getElem_drop,e] using this
     · rcases List.mem_cons.1 hm with e | hm
       · cases e
         rw [hfi] at hfi'
         cases hfi'
         rw [List.drop_append_of_le_length (by omega),List.drop_of_length_le (by omega),List.nil_append,List.take_append_of_le_length (by omega),List.take_of_length_le (by omega)]
         exact hs
       · have := r3 (pre ++ pcs) (by simp; omega) o' ft' fi' hm hfi'
         rwa [List.append_assoc] at this
   · cases h3
 | [],_::_,_,hl,_,_=>by simp at hl
 |_::_,[],_,hl,_,_=>by simp at hl
section
variable {E:Env} {P:Program} {H:Type} {enc:TypeId×Value→H} {w:World} {base:Nat} {spare:Nat→Bool} {held:Bool} {cl:List TypeId}
theorem Qf (hE:TOk E P) {B:DataW H→Nat} (hB:BulkOk B) (hcl:∀ t,t∈cl→ZhV E.T cl t=true):∀ (n:Nat) (t:TypeId) (cs:List Value) (x:DataW H×List MemPlace),t∈cl→DataW.trod enc P w base spare held n t cs=some x→∃ pcs,Sh E.T t pcs∧WC (wS w) pcs cs∧wtL pcs≤B x.1
 |0,t,cs,x,_,h=>by simp [DataW.trod] at h
 | n + 1, t, cs, x, ht, h => by
   have hk:=hcl t ht
   unfold ZhV at hk
   split at hk
   · rename_i ti hti
     obtain ⟨i,d,z,h1,h2,h3,rfl⟩:=hE.spec hti
     have hsz:P.cellsOf t=i.size:=by simp [Program.cellsOf,h1]
     simp only at hk
     split at hk
     · rename_i hd
       have hd:=ZaS hd
       subst hd
       obtain ⟨b,rfl,rfl⟩:=DataW.trod_bool h2 h
       exact ⟨[.bool b],.bool hti rfl,Ze6 (.bool b),by have:=hB.lit (.bool b);simpa [wtL,wt] using this⟩
     · rename_i k hd
       have hd:=Uu hd
       subst hd
       obtain ⟨m,rfl,rfl,hw⟩:=DataW.trod_int h2 h
       exact ⟨[.int k m],.int hti rfl hw,Ze6 (.int k m),by have:=hB.lit (.int k m);simpa [wtL,wt] using this⟩
     · rename_i hd
       have hd:=Yq hd
       subst hd
       obtain ⟨s,rfl,rfl,hw⟩:=DataW.trod_string h2 h
       exact ⟨[.str s.data.toList],.str hti rfl (by simpa using hw),Ze6 (.str _ s rfl),by have:=hB.str s.data.toList;simpa [wtL,wt] using this⟩
     · rename_i e hd
       have hd:=ZV hd
       subst hd
       simp only [Bool.and_eq_true] at hk
       obtain ⟨_,he,hei⟩:=hk
       split at hei
       · rename_i ei hte
         obtain ⟨i',d',z',h1',h2',h3',rfl⟩:=hE.spec hte
         have hes:P.cellsOf e=i'.size:=by simp [Program.cellsOf,h1']
         have hpos:0<i'.size:=Nat.le_of_ble_eq_true hei
         rcases DataW.trod_slice h2 h with ⟨rfl,rfl⟩|⟨a,len,cap,elems,rest,m,hm,rfl,rfl,hb,hl,hcap,hlen,hel, -, -⟩
         · exact ⟨[.nils],.nils hti rfl,Ze6 (.nils),by have:=hB.nil;simpa [wtL,wt] using this⟩
         · cases hm
           have each:∀ i,i<len→∃ p:List PV×List Value,Sh E.T e p.1∧WC (wS w) p.1 p.2∧w.cells? base (a.add (i*i'.size)) i'.size=some p.2∧∃ hh:i<elems.length,wtL p.1≤B (elems[i]'hh).1:=fun i hi=>by
            have hx:=hel i hi
            have hy:elems[i]? = some (elems[i]'(by omega)):=List.getElem?_eq_getElem (by omega)
            rw [hy,Option.bind_eq_some_iff] at hx
            obtain ⟨cs',hc1,hc2⟩:=hx
            obtain ⟨pcs,q1,q2,q3⟩:=Qf hE hB hcl n e cs' _ (Zdp he) hc2
            exact ⟨(pcs,cs'),q1,q2,by rw [← hes];exact hc1,by omega,q3⟩
           obtain ⟨L,hL1,hL2⟩:=Zd8 len each
           have hcell:∀ i (hi:i<L.length) j,j<i'.size→w.cell? ((a.add (i*i'.size)).add j)=(L[i]).2[j]? :=fun i hi j hj=>by
            have:=(World.cells?_some (hL2 i hi).2.2.1)
            exact this.2.2 j hj
           have hlen2:∀ i (hi:i<L.length),(L[i]).2.length=i'.size:=fun i hi=>(World.cells?_some (hL2 i hi).2.2.1).2.1
           have hspot:0<len→a=⟨a.block,a.off,none⟩:=fun hp=>by
            have h0:=hcell 0 (by omega) 0 hpos
            rw [List.getElem?_eq_getElem (by rw [hlen2 0 (by omega)];exact hpos)] at h0
            simp only [Nat.zero_mul,Addr.add,if_true] at h0
            obtain ⟨ab,ao,asp⟩:=a
            cases asp with
            | none=>rfl
            | some z =>
              simp only [World.cell?] at h0
              split at h0
              · simp at h0
              · cases h0
           have hw':∀ i (hi:i<L.length),(L[i]).1.length=i'.size:=fun i hi=>by rw [← (hL2 i hi).2.1.1];exact hlen2 i hi
           refine ⟨[.sl .none i'.size (L.map (·.1))],.sl hti rfl hte (by simp;omega) (fun c hc=>?_),⟨rfl,fun k hi hj=>?_⟩,?_⟩
           · obtain ⟨p, hp, rfl⟩ := List.mem_map.1 hc
             obtain ⟨q,hq,rfl⟩:=List.mem_iff_getElem.1 hp
             exact (hL2 q hq).1
           · obtain rfl : k = 0 := by simp at hi; omega
             have hLm:(L.map (·.1)).length=len:=by simp [hL1]
             simp only [List.getElem_cons_zero]
             have key:V0 (wS w) (.sl .none i'.size (L.map (·.1))) (.slice (some a) (L.map (·.1)).length cap):=by
              refine .sl .none i'.size (L.map (·.1)) a a.block a.off cap (fun x y=>((L[x]?.map (·.2)).getD []).getD y undef) (fun hp=>hspot (by omega)) (.inl rfl) (by omega) (fun x hx=>?_) (fun x y hx hy=>?_) (fun x hx y hy=>?_)
              · simpa using hw' x (by simpa using hx)
              · have hx' : x < L.length := by simpa using hx
                have hcl:=hcell x hx' y hy
                have ha:=hspot (by omega)
                have e0:∀ A:Addr,A=⟨a.block,a.off,none⟩→(A.add (x*i'.size)).add y=⟨a.block,a.off+x*i'.size+y,none⟩:=fun A hA=>by rw [hA,ZM,ZM]
                have e1:=e0 a ha
                rw [e1] at hcl
                simp only [wS]
                rw [hcl,List.getElem?_eq_getElem hx']
                have:y<(L[x]).2.length:=by rw [hlen2 x hx'];exact hy
                simp [this]
              · have hx' : x < L.length := by simpa using hx
                have e1:(L.map (·.1))[x]=(L[x]).1:=by simp
                have hy1:y<(L[x]).1.length:=by rw [← e1];exact hy
                have:=(hL2 x hx').2.1.2 y hy1 (by rw [(hL2 x hx').2.1.1];exact hy1)
                have hy2:y<(L[x]).2.length:=by rw [(hL2 x hx').2.1.1];exact hy1
                simpa [e1,List.getElem?_eq_getElem hx',hy2] using this
             rwa [hLm] at key
           · have h1 := hB.slice (elems.map (·.1)) (rest.map (·.1))
             have h2:WN (L.map (·.1))≤((elems.map (·.1)).map B).sum:=Zcy (by simp;omega) fun i hi hj=>by
              obtain ⟨hh,hq⟩:=(hL2 i (by simpa using hi)).2.2.2
              simpa using hq
             simp only [wtL,wt]
             omega
       · cases hei
     · rename_i fs hd
       obtain ⟨fs',hd,hfs⟩:=Wc hd
       subst hd
       obtain ⟨xs,m,hm,rfl,hlen,hxl,hf⟩:=DataW.trod_struct h2 h
       cases hm
       rw [hsz] at hlen
       obtain ⟨rest,r1,r2,rw_,r3⟩:=Ul (S:=wS w) hlen fs ((xs.map (·.1)).map B) 0 (by rw [hfs];simp [hxl]) hk fun q hq hb fi hft hfi=>by
        have hq2:q<fs'.toList.length:=by rw [hfs] at hq;simpa using hq
        obtain ⟨f,hqe⟩:∃ f,f=fs'.toList[q]:=⟨_,rfl⟩
        have efq:fs[q]=(f.offset,f.type):=by simp only [hfs,List.getElem_map,hqe]
        rw [efq] at hft hfi ⊢
        simp only at hft hfi ⊢
        obtain ⟨i',d',z',h1',h2',h3',rfl⟩:=hE.spec hfi
        have hx:=hf q f (by rw [hqe];simp only [Array.getElem_toList];exact Array.getElem?_eq_getElem (by simpa using hq2))
        have hq':q<xs.length:=by rw [hxl];simpa using hq2
        rw [List.getElem?_eq_getElem hq'] at hx
        have hs':P.cellsOf f.type=i'.size:=by simp [Program.cellsOf,h1']
        rw [hs'] at hx
        obtain ⟨pcs,z1,z2,z3⟩:=Qf hE hB hcl n f.type _ _ hft hx
        exact ⟨pcs,z1,z2,by simpa using z3⟩
       refine ⟨rest,.struct (fs:=fs) hti (by rw [hfs];rfl) (by simpa using r1) (fun o ft fi hmem hfi=>?_),?_,?_⟩
       · have := r3 [] rfl o ft fi hmem hfi
         simpa using this
       · simpa using r2
       · have := hB.agg (xs.map (·.1))
         exact Nat.le_trans rw_ this
     · cases hk
   · cases hk
end
