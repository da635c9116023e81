/- The two sums in plain numbers: a rest by a polynomial of degree 16 is the sum of 16 bits; of the sum of 32 bits, what up to three turned bits change. Plain numbers; no condition. -/
import Derived.Test.YtlpinbeppedeeaaRst
namespace Go.Proofs.Ytlpinbeppedeeaa.Pure
/-- One bit into a rest of 16 bits. -/
def up (r c : Nat) : Nat := ((2 * r) ^^^ c) ^^^ (if r.testBit 15 = true then 69665 else 0)
theorem up_rs (r c : Nat) (hc : c < 2) : rs 69665 16 r c = up r c := by
  unfold rs up
  have e1 : c % 2 = c := Nat.mod_eq_of_lt hc
  have e2 : (2 * r + c).testBit 16 = r.testBit 15 := by
    rw [Nat.testBit_succ, show (2 * r + c) / 2 = r by omega]
  have e3 : 2 * r + c = (2 * r) ^^^ c := by rw [Nat.xor_comm, xor_low r c hc]
  rw [e1, e2]
  by_cases h : r.testBit 15 = true
  · rw [if_pos h, if_pos h, e3]
  · rw [if_neg h, if_neg h, e3, Nat.xor_zero]
theorem up_lt (r c : Nat) (hr : r < 65536) (hc : c < 2) : up r c < 65536 := by
  rw [← up_rs r c hc]
  exact rs_lt 69665 16 r c (by decide) (by decide) hr
theorem up_xor (r s c d : Nat) : up (r ^^^ s) (c ^^^ d) = up r c ^^^ up s d := by
  unfold up
  rw [two_xor, Nat.testBit_xor]
  generalize 2 * r = a
  generalize 2 * s = b
  cases r.testBit 15 <;> cases s.testBit 15
  · simp only [Bool.xor_false, Bool.false_eq_true, if_false, Nat.xor_zero]
    ac_rfl
  · simp only [Bool.false_xor, if_true, Bool.false_eq_true, if_false, Nat.xor_zero]
    ac_rfl
  · simp only [Bool.xor_false, if_true, Bool.false_eq_true, if_false, Nat.xor_zero]
    ac_rfl
  · simp only [Bool.xor_self, if_true, Bool.false_eq_true, if_false, Nat.xor_zero]
    have : ((a ^^^ c) ^^^ 69665) ^^^ ((b ^^^ d) ^^^ 69665) = ((a ^^^ b) ^^^ (c ^^^ d)) ^^^ (69665 ^^^ 69665) := by ac_rfl
    rw [this, Nat.xor_self, Nat.xor_zero]
def A (r : Nat) : List Nat → Nat
  | [] => r
  | c :: l => A (up r c) l
theorem A_app (l m : List Nat) : ∀ r, A r (l ++ m) = A (A r l) m := by
  induction l with
  | nil => intro r; rfl
  | cons c l ih => intro r; exact ih (up r c)
theorem A_xor : ∀ (l m : List Nat) (r s : Nat), l.length = m.length → A (r ^^^ s) (List.zipWith (· ^^^ ·) l m) = A r l ^^^ A s m := by
  intro l
  induction l with
  | nil =>
    intro m r s h
    cases m with
    | nil => rfl
    | cons d m => simp at h
  | cons c l ih =>
    intro m r s h
    cases m with
    | nil => simp at h
    | cons d m =>
      show A (up (r ^^^ s) (c ^^^ d)) (List.zipWith (· ^^^ ·) l m) = _
      rw [up_xor, ih m _ _ (by simpa using h)]
      rfl
theorem zip_zero : ∀ l : List Nat, List.zipWith (· ^^^ ·) l (List.replicate l.length 0) = l := by
  intro l
  induction l with
  | nil => rfl
  | cons c l ih => rw [List.length_cons, List.replicate_succ, List.zipWith_cons_cons, ih, Nat.xor_zero]
theorem zip_one : ∀ l : List Nat, List.zipWith (· ^^^ ·) l (List.replicate l.length 1) = l.map (· ^^^ 1) := by
  intro l
  induction l with
  | nil => rfl
  | cons c l ih => rw [List.length_cons, List.replicate_succ, List.zipWith_cons_cons, ih, List.map_cons]
theorem A_split (r s : Nat) (l : List Nat) : A (r ^^^ s) l = A r l ^^^ A s (List.replicate l.length 0) := by
  have := A_xor l (List.replicate l.length 0) r s (by simp)
  rw [zip_zero] at this
  exact this
theorem A_flip (l : List Nat) : A 0 (l.map (· ^^^ 1)) = A 0 l ^^^ A 0 (List.replicate l.length 1) := by
  have := A_xor l (List.replicate l.length 1) 0 0 (by simp)
  rw [zip_one, Nat.xor_zero] at this
  exact this
def dn (n c : Nat) : Nat := up n 0 ^^^ (if c = 1 then 4129 else 0)
def D (n : Nat) : List Nat → Nat
  | [] => n
  | c :: l => D (dn n c) l
theorem A_zeros16 (c : Nat) (hc : c < 2) : A c (List.replicate 16 0) = if c = 1 then 4129 else 0 := by
  rcases (show c = 0 ∨ c = 1 by omega) with rfl | rfl <;> decide +kernel
theorem key : ∀ (m : List Nat) (n : Nat), (∀ c ∈ m, c < 2) → D n m = A n (List.replicate m.length 0) ^^^ A 0 (m ++ List.replicate 16 0) := by
  intro m
  induction m with
  | nil =>
    intro n _
    show n = n ^^^ A 0 (List.replicate 16 0)
    rw [A_zeros16 0 (by decide), if_neg (by decide), Nat.xor_zero]
  | cons c m ih =>
    intro n h
    have hc := h c List.mem_cons_self
    show D (dn n c) m = A (up n 0) (List.replicate m.length 0) ^^^ A (up 0 c) (m ++ List.replicate 16 0)
    rw [ih (dn n c) (fun x hx => h x (List.mem_cons_of_mem _ hx))]
    have e0 : up 0 c = 0 ^^^ c := by unfold up; simp
    have e1 : A (dn n c) (List.replicate m.length 0) = A (up n 0) (List.replicate m.length 0) ^^^ A (if c = 1 then 4129 else 0) (List.replicate m.length 0) := by
      unfold dn
      have := A_split (up n 0) (if c = 1 then 4129 else 0) (List.replicate m.length 0)
      rw [List.length_replicate] at this
      exact this
    have e2 : A (0 ^^^ c) (m ++ List.replicate 16 0) = A 0 (m ++ List.replicate 16 0) ^^^ A (if c = 1 then 4129 else 0) (List.replicate m.length 0) := by
      rw [A_split, List.length_append, List.length_replicate, Nat.add_comm m.length 16, ← List.replicate_append_replicate, A_app (List.replicate 16 0) (List.replicate m.length 0) c, A_zeros16 c hc]
    rw [e0, e1, e2]
    ac_rfl
theorem dn_xor (x y c : Nat) : dn (x ^^^ y) c = dn x 0 ^^^ dn y c := by
  have e0 : dn x 0 = up x 0 := by unfold dn; rw [if_neg (by decide), Nat.xor_zero]
  have := up_xor x y 0 0
  rw [Nat.xor_self] at this
  rw [e0, dn, dn, this]
  ac_rfl
theorem D_xor : ∀ (l : List Nat) (x y : Nat), D (x ^^^ y) l = D x (List.replicate l.length 0) ^^^ D y l := by
  intro l
  induction l with
  | nil => intro x y; rfl
  | cons c l ih =>
    intro x y
    show D (dn (x ^^^ y) c) l = D (dn x 0) (List.replicate l.length 0) ^^^ D (dn y c) l
    rw [dn_xor, ih]
/-- A byte's bits, the highest first. -/
def bits8 (c : Nat) : List Nat := [c / 128 % 2, c / 64 % 2, c / 32 % 2, c / 16 % 2, c / 8 % 2, c / 4 % 2, c / 2 % 2, c % 2]
def check8 : Bool := (List.range 256).all fun c => D (256 * c) (List.replicate 8 0) == D 0 (bits8 c)
theorem check8_true : check8 = true := by decide +kernel
theorem byte16 (n c : Nat) (hc : c < 256) : D (n ^^^ (256 * c)) (List.replicate 8 0) = D n (bits8 c) := by
  have h := List.all_eq_true.mp check8_true c (List.mem_range.mpr hc)
  have h2 : D (256 * c) (List.replicate 8 0) = D 0 (bits8 c) := by simpa using h
  have h3 := D_xor (bits8 c) n 0
  rw [Nat.xor_zero] at h3
  have h4 := D_xor (List.replicate 8 0) n (256 * c)
  rw [List.length_replicate] at h4
  rw [h4, h2, h3]
  rfl
/-- With the first sixteen bits turned, and sixteen noughts behind. -/
theorem crc_rest (m L1 L2 : List Nat) (hm : ∀ c ∈ m, c < 2) (h1 : L1.length = 16) (e : L1 ++ L2 = m ++ List.replicate 16 0) : A 0 (L1.map (· ^^^ 1) ++ L2) = D 65535 m := by
  have hl : L2.length = m.length := by
    have := congrArg List.length e
    rw [List.length_append, List.length_append, List.length_replicate] at this
    omega
  rw [A_app, A_flip, h1, show A 0 (List.replicate 16 1) = 65535 by decide +kernel, A_split, ← A_app, e, key m 65535 hm, hl]
  ac_rfl

/-! ### 32 bits -/
def G (n : Nat) : Nat := (n / 2) ^^^ (if n.testBit 0 = true then 3988292384 else 0)
theorem G_xor (a b : Nat) : G (a ^^^ b) = G a ^^^ G b := by
  unfold G
  have : (a ^^^ b) / 2 = a / 2 ^^^ b / 2 := by
    have := Nat.xor_div_two_pow (a := a) (b := b) (n := 1)
    simpa using this
  rw [this, Nat.testBit_xor]
  generalize a / 2 = x
  generalize b / 2 = y
  cases a.testBit 0 <;> cases b.testBit 0
  · simp
  · simp only [Bool.false_xor, if_true, Bool.false_eq_true, if_false, Nat.xor_zero]
    ac_rfl
  · simp only [Bool.xor_false, if_true, Bool.false_eq_true, if_false, Nat.xor_zero]
    ac_rfl
  · simp only [Bool.xor_self, if_true, Bool.false_eq_true, if_false, Nat.xor_zero]
    have : (x ^^^ 3988292384) ^^^ (y ^^^ 3988292384) = (x ^^^ y) ^^^ (3988292384 ^^^ 3988292384) := by ac_rfl
    rw [this, Nat.xor_self, Nat.xor_zero]
theorem G_lt (a : Nat) (h : a < 4294967296) : G a < 4294967296 := by
  unfold G
  exact Nat.xor_lt_two_pow (n := 32) (by omega) (by split <;> decide)
theorem G_zero {a : Nat} (h : a < 4294967296) (e : G a = 0) : a = 0 := by
  unfold G at e
  have := xor_eq_zero e
  by_cases c : a.testBit 0 = true
  · rw [if_pos c] at this; omega
  · rw [if_neg c] at this
    rw [Nat.testBit_zero] at c
    simp at c
    omega
theorem G_two (x : Nat) : G (2 * x) = x := by
  unfold G
  rw [if_neg (by rw [Nat.testBit_zero]; simp), Nat.xor_zero]
  omega
def Gi : Nat → Nat → Nat
  | 0, a => a
  | k + 1, a => Gi k (G a)
theorem Gi_xor : ∀ k a b, Gi k (a ^^^ b) = Gi k a ^^^ Gi k b := by
  intro k
  induction k with
  | zero => intro a b; rfl
  | succ k ih => intro a b; show Gi k (G (a ^^^ b)) = _; rw [G_xor, ih]; rfl
theorem Gi_lt : ∀ k a, a < 4294967296 → Gi k a < 4294967296 := by
  intro k
  induction k with
  | zero => intro a h; exact h
  | succ k ih => intro a h; exact ih _ (G_lt a h)
theorem Gi_zero : ∀ k a, a < 4294967296 → Gi k a = 0 → a = 0 := by
  intro k
  induction k with
  | zero => intro a _ h; exact h
  | succ k ih => intro a h e; exact G_zero h (ih _ (G_lt a h) e)
theorem Gi_add : ∀ j k a, Gi (j + k) a = Gi j (Gi k a) := by
  intro j k
  induction k with
  | zero => intro a; rfl
  | succ k ih => intro a; exact ih (G a)
theorem Gi_pow : ∀ k m, k ≤ m → Gi m (2 ^ k) = Gi (m - k) 1 := by
  intro k
  induction k with
  | zero => intro m _; rfl
  | succ k ih =>
    intro m h
    obtain ⟨m, rfl⟩ : ∃ j, m = j + 1 := ⟨m - 1, by omega⟩
    show Gi m (G (2 ^ (k + 1))) = _
    rw [Nat.pow_succ, Nat.mul_comm, G_two, ih m (by omega), show m + 1 - (k + 1) = m - k by omega]
/-- A sum's state behind bytes. -/
def St (n : Nat) : List Nat → Nat
  | [] => n
  | c :: l => St (Gi 8 (n ^^^ c)) l
theorem St_xor : ∀ (l : List Nat) (n e : Nat), St (n ^^^ e) l = St n l ^^^ Gi (8 * l.length) e := by
  intro l
  induction l with
  | nil => intro n e; rfl
  | cons c l ih =>
    intro n e
    show St (Gi 8 (n ^^^ e ^^^ c)) l = St (Gi 8 (n ^^^ c)) l ^^^ _
    rw [show n ^^^ e ^^^ c = (n ^^^ c) ^^^ e by ac_rfl, Gi_xor, ih, ← Gi_add, List.length_cons, Nat.mul_succ]
theorem St_set : ∀ (l : List Nat) (n i d : Nat), i < l.length → St n (l.set i (l.getD i 0 ^^^ d)) = St n l ^^^ Gi (8 * (l.length - i)) d := by
  intro l
  induction l with
  | nil => intro n i d h; simp at h
  | cons c l ih =>
    intro n i d h
    cases i with
    | zero =>
      show St (Gi 8 (n ^^^ (c ^^^ d))) l = St (Gi 8 (n ^^^ c)) l ^^^ _
      rw [← Nat.xor_assoc, Gi_xor, St_xor, ← Gi_add, Nat.sub_zero, List.length_cons, Nat.mul_succ]
    | succ i =>
      show St (Gi 8 (n ^^^ c)) (l.set i (l.getD i 0 ^^^ d)) = St (Gi 8 (n ^^^ c)) l ^^^ _
      rw [ih _ _ _ (by simpa using h), List.length_cons, show l.length + 1 - (i + 1) = l.length - i by omega]
/-- Which power of x a place of a list of bits stands for. -/
def pw (len p : Nat) : Nat := 8 * (len - p / 8) - (7 - p % 8)
theorem pw_in (len p : Nat) (h : p < 8 * len) : 1 ≤ pw len p ∧ pw len p ≤ 8 * len := by unfold pw; omega
theorem pw_inj (len p q : Nat) (h : p < 8 * len) (k : q < 8 * len) (e : pw len p = pw len q) : p = q := by unfold pw at e; omega
/-- A byte with a bit turned. -/
def tog (l : List Nat) (p : Nat) : List Nat := l.set (p / 8) (l.getD (p / 8) 0 ^^^ 2 ^ (7 - p % 8))
theorem tog_len (l : List Nat) (p : Nat) : (tog l p).length = l.length := by rw [tog, List.length_set]
theorem St_tog (l : List Nat) (n p : Nat) (h : p < 8 * l.length) : St n (tog l p) = St n l ^^^ Gi (pw l.length p) 1 := by
  rw [tog, St_set l n (p / 8) _ (by omega), Gi_pow _ _ (by omega)]
  rfl
def iterL : Nat → Nat → List Nat
  | 0, _ => []
  | k + 1, x => x :: iterL k (G x)
def us : List Nat := [3988292384, 1994146192, 997073096, 498536548, 249268274, 124634137, 3993919788, 1996959894, 998479947, 4034481925, 2508465314, 1254232657, 3369699848, 1684849924, 842424962, 421212481, 3778354048, 1889177024, 944588512, 472294256, 236147128, 118073564, 59036782, 29518391, 3982079547, 2601801789, 2687676222, 1343838111, 3316918511, 2405603159, 2852767883, 3099354981, 2984685714, 1492342857, 3250663172, 1625331586, 812665793, 4118849216, 2059424608, 1029712304, 514856152, 257428076, 128714038, 64357019, 3964895853, 2609988118, 1304994059, 3411858341, 2283203314, 1141601657, 3485284764, 1742642382, 871321191, 4098827283, 2543784233, 2792819636, 1396409818, 698204909, 4185285206, 2092642603, 3555007413, 2219446010, 1109723005, 3433693342, 1716846671, 3734110983, 2196865699, 2898281073, 3151536664, 1575768332, 787884166, 393942083, 3859089665, 2662991776, 1331495888, 665747944, 332873972, 166436986, 83218493, 4022496062, 2011248031, 3595049455, 2258407383, 2935407819, 3133399365, 2967040898, 1483520449, 3247366080, 1623683040, 811841520, 405920760, 202960380, 101480190, 50740095, 3963330207, 2611301487, 2691310871, 3180171691, 3011398645, 3020400346, 1510200173, 3233376918, 1616688459, 3717650821, 2205413346, 1102706673, 3445913816, 1722956908, 861478454, 430739227, 3782132909, 2635063670, 1317531835, 3405478781, 2294627998, 1147313999, 3481914503, 2323408227, 2827399569, 3120290792, 1560145396, 780072698, 390036349, 3861331614, 1930665807, 3560000647, 2275419491, 2926088593, 3129789416, 1564894708, 782447354, 391223677, 3859828638, 1929914319, 3560739015, 2275855171, 2926306945, 3129831520, 1564915760, 782457880, 391228940, 195614470, 97807235, 4015175393, 2584860752, 1292430376, 646215188, 323107594, 161553797, 3915910626, 1957955313, 3621945432, 1810972716, 905486358, 452743179, 3771116325, 2648430258, 1324215129, 3402528396, 1701264198, 850632099, 4108406257, 2546476504, 1273238252, 636619126, 318309563, 3838050685, 2681897886, 1340948943, 3394118599, 2292159171, 2851555905, 3108185600, 1554092800, 777046400, 388523200, 194261600, 97130800, 48565400, 24282700, 12141350, 6070675, 3986084841, 2608065236, 1304032618, 652016309, 4275502714, 2137751357, 3524082878, 1762041439, 3644574735, 2166711591, 2905223603, 3140328441, 2955824860, 1477912430, 738956215, 4223486715, 2422613597, 2777387022, 1388693511, 3302647587, 2413146289, 2857524088, 1428762044, 714381022, 357190511, 3877480087, 2654359659, 2728635157, 3169408682, 1584704341, 3263354506, 1631677253, 3709351554, 1854675777, 3674115712, 1837057856, 918528928, 459264464, 229632232, 114816116, 57408058, 28704029, 3982654894, 1991327447, 3605011531, 2261290245, 2933704098, 1466852049, 3322917448, 1661458724, 830729362, 415364681, 3789060100, 1894530050, 947265025, 4051930144, 2025965072]
theorem us_is : iterL 239 (G 1) = us := by decide +kernel
theorem iterL_mem : ∀ k x e, e < k → Gi e x ∈ iterL k x := by
  intro k
  induction k with
  | zero => intro x e h; omega
  | succ k ih =>
    intro x e h
    cases e with
    | zero => exact List.mem_cons_self
    | succ e => exact List.mem_cons_of_mem _ (ih (G x) e (by omega))
theorem us_mem (e : Nat) (h : 1 ≤ e) (h2 : e ≤ 239) : Gi e 1 ∈ us := by
  obtain ⟨e, rfl⟩ : ∃ j, e = j + 1 := ⟨e - 1, by omega⟩
  rw [← us_is]
  exact iterL_mem 239 (G 1) e (by omega)
def chk (l : List Nat) : Bool := l.all fun u => Nat.ble (Nat.succ 0) (1 ^^^ u) && l.all fun v => Nat.ble (Nat.succ 0) ((1 ^^^ u) ^^^ v)
theorem chk_true : chk us = true := by decide +kernel
theorem two_ne (e : Nat) (h : 1 ≤ e) (h2 : e ≤ 239) : 1 ^^^ Gi e 1 ≠ 0 := by
  have := List.all_eq_true.mp chk_true _ (us_mem e h h2)
  rw [Bool.and_eq_true] at this
  have h3 := Nat.le_of_ble_eq_true this.1
  omega
theorem three_ne (e f : Nat) (h : 1 ≤ e) (h2 : e ≤ 239) (k : 1 ≤ f) (k2 : f ≤ 239) : (1 ^^^ Gi e 1) ^^^ Gi f 1 ≠ 0 := by
  have := List.all_eq_true.mp chk_true _ (us_mem e h h2)
  rw [Bool.and_eq_true] at this
  have h3 := Nat.le_of_ble_eq_true (List.all_eq_true.mp this.2 _ (us_mem f k k2))
  omega
theorem one_pw (e : Nat) : Gi e 1 ≠ 0 := fun h => absurd (Gi_zero e 1 (by decide) h) (by decide)
theorem two_pw (e f : Nat) (he : 1 ≤ e) (hf : f ≤ 240) (h : e < f) : Gi e 1 ^^^ Gi f 1 ≠ 0 := by
  intro hz
  have e1 : Gi f 1 = Gi e (Gi (f - e) 1) := by rw [← Gi_add, show e + (f - e) = f by omega]
  rw [e1, ← Gi_xor] at hz
  exact two_ne (f - e) (by omega) (by omega) (Gi_zero e _ (Nat.xor_lt_two_pow (n := 32) (by decide) (Gi_lt _ 1 (by decide))) hz)
theorem three_pw (e f g : Nat) (he : 1 ≤ e) (hf : f ≤ 240) (hg : g ≤ 240) (h : e < f) (k : e < g) : (Gi e 1 ^^^ Gi f 1) ^^^ Gi g 1 ≠ 0 := by
  intro hz
  have e1 : Gi f 1 = Gi e (Gi (f - e) 1) := by rw [← Gi_add, show e + (f - e) = f by omega]
  have e2 : Gi g 1 = Gi e (Gi (g - e) 1) := by rw [← Gi_add, show e + (g - e) = g by omega]
  rw [e1, e2, ← Gi_xor, ← Gi_xor] at hz
  exact three_ne (f - e) (g - e) (by omega) (by omega) (by omega) (by omega) (Gi_zero e _ (Nat.xor_lt_two_pow (n := 32) (Nat.xor_lt_two_pow (n := 32) (by decide) (Gi_lt _ 1 (by decide))) (Gi_lt _ 1 (by decide))) hz)
end Go.Proofs.Ytlpinbeppedeeaa.Pure
