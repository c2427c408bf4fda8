/- What versions answer. -/
import Derived.Test.YtjiifieafnjpgaaDoorVL3
